/-
  The basic way in any state: the next unit.
-/
import Derived.Test.YtadheikcgdhcdaaBxA
namespace Go.Proofs.Ytadheikcgdhcdaa
open Go.RowKit
set_option linter.unusedVariables false
set_option linter.unusedSimpArgs false

/-- Nothing is to be sent: a unit that says nothing. -/
theorem BX.next_fill {w : World} {b h : Nat} {m o : Int} {sv nv : Value} {s : BSt} (k : BX w b h m o sv nv s) (ha : s.ag = -1) (hn : s.ns = [] ∨ 127 ≤ s.ss.length) :
    Calls Try.prog 42 #[.pointer (some ⟨b, 0, none⟩)] w fun e w' => e = .returned (.agg #[.int .u8 s.last, .int .u8 ((s.f + s.ss.length - 1) % 128), .bool s.bib, .bool s.fib, .int .u8 0, .int .u8 0, .bool false, .slice none 0 0]) ∧ Below w.heap.size w w' := by
  have hR0 := Blk.new w unit0 69
  have hB1 : Below w.heap.size w (w.alloc (.cells unit0.toArray 69)) := (Below.refl _ _).alloc (Nat.le_refl _) _
  have k1 := k.below hB1
  have k0 := Blk.cell k1.bs 0 rfl
  have k5 := Blk.cell k1.bs 5 rfl
  rw [ha] at k5
  have hfill := k1.fill
  obtain ⟨E, hE⟩ : ∃ E : Int, (E = 2 ∨ E = 3) ∧ Calls Try.prog 22 #[.pointer (some ⟨h, 0, none⟩)] (w.alloc (.cells unit0.toArray 69)) fun e w' => e = .returned (.tuple #[.int .u8 0, .slice none 0 0, .int .i64 E]) ∧ w' = w.alloc (.cells unit0.toArray 69) := by
    by_cases h0 : s.ns = []
    · have hx := k1.hx
      rw [h0] at hx
      exact ⟨2, .inl rfl, hx.send_none⟩
    · have h1 : 127 ≤ s.ss.length := by rcases hn with h | h; exact absurd h h0; exact h
      refine ⟨3, .inr rfl, k1.hx.send_full ?_ h1⟩
      cases hs : s.ns with
      | nil => exact absurd hs h0
      | cons x r => simp
  obtain ⟨N, hN⟩ : ∃ N, (s.f + (s.ss.length : Int) - 1) % 128 = N := ⟨_, rfl⟩
  rw [hN] at hfill ⊢
  obtain ⟨hE, hsend⟩ := hE
  clear hn k1 k
  rcases hE with rfl | rfl
  all_goals
    go_enter Try.func42, Try.ntmps42
    go_wp2_with fail
    refine hsend.mono ?_
    rintro e w1 ⟨rfl, rfl⟩
    go_wp2_with fail
    refine hfill.mono ?_
    rintro e w2 ⟨rfl, hb⟩
    have hR2 := Blk.below hR0 hb
    have hb2 : Below w.heap.size w w2 := hB1.trans (hb.mono (by simp))
    have hres := Blk.row hR2 [.int .u8 s.last, .int .u8 N, .bool s.bib, .bool s.fib, .int .u8 0, .int .u8 0, .bool false, .slice none 0 0]
    have r0 := Blk.cell hres 0 rfl
    have r1 := Blk.cell hres 1 rfl
    have r2 := Blk.cell hres 2 rfl
    have r3 := Blk.cell hres 3 rfl
    have r4 := Blk.cell hres 4 rfl
    have r5 := Blk.cell hres 5 rfl
    have r6 := Blk.cell hres 6 rfl
    have r7 := Blk.cell hres 7 rfl
    have hK := hR2
    unfold Blk at hK
    go_wp2_with (refine wpList_store_row rfl 69 (.tmp 2) (.tmp 75) rfl w.heap.size #[.int .u8 s.last, .int .u8 N, .bool s.bib, .bool s.fib, .int .u8 0, .int .u8 0, .bool false, .slice none 0 0] rfl rfl 69 _ hK (by kernel_rfl) rfl (by simp [Value.oneCell']) ?_)
    refine bodyPost_ret (v := .agg #[.int .u8 s.last, .int .u8 N, .bool s.bib, .bool s.fib, .int .u8 0, .int .u8 0, .bool false, .slice none 0 0]) (by simp [results, Try.results42, go_sem, r0, r1, r2, r3, r4, r5, r6, r7]) rfl ?_
    exact ⟨rfl, below_row hb2 (Nat.le_refl _) _⟩

/-- A new one is sent. -/
theorem BX.next_new {w : World} {b h : Nat} {m o : Int} {sv nv : Value} {s : BSt} (k : BX w b h m o sv nv s) (ha : s.ag = -1) (x : List Int) (rest : List (List Int)) (hn : s.ns = x :: rest) (hl : s.ss.length < 127) :
    Calls Try.prog 42 #[.pointer (some ⟨b, 0, none⟩)] w fun e w' => ∃ (g8 c8 : Nat) (cs8 : List Value), e = .returned (.agg #[.int .u8 s.last, .int .u8 ((s.f + s.ss.length) % 128), .bool s.bib, .bool s.fib, .int .u8 2, .int .u8 0, .bool false, .slice (some ⟨g8, 0, none⟩) x.length c8]) ∧
      (∃ sv' nv', BX w' b h m o sv' nv' { s with ss := s.ss ++ [x], ns := rest } ∧ BF w w' b h sv nv sv' nv') ∧ Blk w' g8 cs8 5 ∧ (∀ (j : Nat) (u : Value), (x.map (Value.int .u8))[j]? = some u → cs8[j]? = some u) := by
  have hR0 := Blk.new w unit0 69
  have hB1 : Below w.heap.size w (w.alloc (.cells unit0.toArray 69)) := (Below.refl _ _).alloc (Nat.le_refl _) _
  have k1 := k.below hB1
  have k0 := Blk.cell k1.bs 0 rfl
  have k5 := Blk.cell k1.bs 5 rfl
  rw [ha] at k5
  have hx1 := k1.hx
  rw [hn] at hx1
  have hsend := hx1.send_ok hl
  obtain ⟨N, hN⟩ : ∃ N, (s.f + (s.ss.length : Int)) % 128 = N := ⟨_, rfl⟩
  rw [hN] at hsend ⊢
  have HK := Lib.hid k1
  have HA := Lib.hid ha
  have HN := Lib.hid hn
  clear k1 hx1 ha hn k
  go_enter Try.func42, Try.ntmps42
  go_wp2_with fail
  refine hsend.mono ?_
  rintro e w1 ⟨g8, c8, cs8, rfl, ⟨sv', nv', hx2, hF2⟩, hB8, hc8, -⟩
  have hF2b : BF (w.alloc (.cells unit0.toArray 69)) w1 b h sv nv sv' nv' := .of_hf hF2
  have hBS2 : BS w1 b h s.fib s.bib s.last s.asked s.ag s.q0 s.q1 s.i0 s.i1 := HK.out.far hF2
  have hR1 : Blk w1 w.heap.size unit0 69 := HK.out.keep hF2b hR0 (by decide) (by decide) (by decide)
  have hk2 : BX w1 b h m o sv' nv' { s with ss := s.ss ++ [x], ns := rest } := ⟨hBS2, hx2, .inl HA.out, HK.out.lst⟩
  have HK2 := Lib.hid hk2
  have HC := Lib.hid hc8
  clear hsend k0 k5 hx2 hk2 hc8
  go_wp2_with fail
  refine (bmessage hBS2 N g8 x.length c8).mono ?_
  rintro e w2 ⟨rfl, hb2⟩
  have hR2 := Blk.below hR1 hb2
  have hres := Blk.row hR2 [.int .u8 s.last, .int .u8 N, .bool s.bib, .bool s.fib, .int .u8 2, .int .u8 0, .bool false, .slice (some ⟨g8, 0, none⟩) x.length c8]
  have r0 := Blk.cell hres 0 rfl
  have r1 := Blk.cell hres 1 rfl
  have r2 := Blk.cell hres 2 rfl
  have r3 := Blk.cell hres 3 rfl
  have r4 := Blk.cell hres 4 rfl
  have r5 := Blk.cell hres 5 rfl
  have r6 := Blk.cell hres 6 rfl
  have r7 := Blk.cell hres 7 rfl
  have hK := hR2
  unfold Blk at hK
  go_wp2_with (refine wpList_store_row rfl 69 (.tmp 2) (.tmp 73) rfl w.heap.size #[.int .u8 s.last, .int .u8 N, .bool s.bib, .bool s.fib, .int .u8 2, .int .u8 0, .bool false, .slice (some ⟨g8, 0, none⟩) x.length c8] rfl rfl 69 _ hK (by kernel_rfl) rfl (by simp [Value.oneCell']) ?_)
  refine bodyPost_ret (v := .agg #[.int .u8 s.last, .int .u8 N, .bool s.bib, .bool s.fib, .int .u8 2, .int .u8 0, .bool false, .slice (some ⟨g8, 0, none⟩) x.length c8]) (by simp [results, Try.results42, go_sem, r0, r1, r2, r3, r4, r5, r6, r7]) rfl ?_
  have hB8' := (hB8.below hb2)
  exact ⟨g8, c8, cs8, rfl, ⟨sv', nv', (HK2.out.below hb2).setRow hR2 (by decide) (by decide) (by decide) (by decide) _, (((BF.of_below sv nv hB1).trans hF2b).below hb2).row (Nat.le_refl _) _⟩, hB8'.fr (Fr.row1 w2 w.heap.size _) (fun e => hB8'.apart hR2 (by decide) e), HC.out⟩

set_option maxHeartbeats 2000000 in
set_option maxRecDepth 100000 in
/-- One is sent again. -/
theorem BX.next_again {w : World} {b h : Nat} {m o : Int} {sv nv : Value} {s : BSt} (k : BX w b h m o sv nv s) (a : Nat) (ha : s.ag = a) (x : List Int) (hx : s.ss[a]? = some x) :
    Calls Try.prog 42 #[.pointer (some ⟨b, 0, none⟩)] w fun e w' => ∃ (g8 c8 : Nat) (cs8 : List Value), e = .returned (.agg #[.int .u8 s.last, .int .u8 ((s.f + a) % 128), .bool s.bib, .bool s.fib, .int .u8 2, .int .u8 0, .bool false, .slice (some ⟨g8, 0, none⟩) x.length c8]) ∧
      (BX w' b h m o sv nv { s with ag := if s.ss.length ≤ a + 1 then -1 else (a : Int) + 1 } ∧ BF w w' b h sv nv sv nv) ∧ Blk w' g8 cs8 5 ∧ (∀ (j : Nat) (u : Value), (x.map (Value.int .u8))[j]? = some u → cs8[j]? = some u) := by
  have hlt : a < s.ss.length := (List.getElem?_eq_some_iff.1 hx).1
  have hR0 := Blk.new w unit0 69
  have hB1 : Below w.heap.size w (w.alloc (.cells unit0.toArray 69)) := (Below.refl _ _).alloc (Nat.le_refl _) _
  have k1 := k.below hB1
  have k0 := Blk.cell k1.bs 0 rfl
  have k5 := Blk.cell k1.bs 5 rfl
  rw [ha] at k5
  have hat := (k1.hx.drewN 1).at_ok a x hx
  have hwin := k.hx.win
  obtain ⟨N, hN⟩ : ∃ N, (s.f + (a : Int)) % 128 = N := ⟨_, rfl⟩
  rw [hN] at hat ⊢
  obtain ⟨AG, hAG⟩ : ∃ AG : Int, (if s.ss.length ≤ a + 1 then -1 else (a : Int) + 1) = AG := ⟨_, rfl⟩
  rw [hAG]
  replace hAG := Lib.hid hAG
  have HK := Lib.hid k1
  have HA := Lib.hid ha
  have HL := Lib.hid hlt
  have hw : IntKind.i64.wrap ((a : Int) + 1) = (a : Int) + 1 := wrapH _ (by omega)
  have ha0 : (0 : Int) ≤ (a : Int) := by omega
  have HW := Lib.hid hwin
  clear k1 ha hlt k hx hwin
  go_enter Try.func42, Try.ntmps42
  go_upto_region 4 with fail
  have hsz : w.heap.size < (w.alloc (.cells unit0.toArray 69)).heap.size := by simp
  generalize w.alloc (.cells unit0.toArray 69) = W at HK hR0 hB1 k0 k5 hat hsz ⊢
  go_cut [3, 4, 5] (fun n p e wx => n = .int .u8 N ∧ e = .int .i64 0 ∧ ∃ (g8 c8 : Nat) (cs8 : List Value), p = .slice (some ⟨g8, 0, none⟩) x.length c8 ∧ Below W.heap.size W wx ∧ Blk wx g8 cs8 5 ∧ (∀ (j : Nat) (u : Value), (x.map (Value.int .u8))[j]? = some u → cs8[j]? = some u))
  case first =>
    go_region_with (go_at_call 81; refine hat.mono ?_; rintro e w1 ⟨g8, c8, cs8, rfl, hb1, hB8, hc8, -⟩; have hbW : Below W.heap.size W w1 := (below_drewN (Below.refl _ _) 1).trans hb1; clear hb1)
    all_goals go_wp2
    all_goals go_meet
    all_goals exact ⟨rfl, rfl, g8, c8, cs8, rfl, hbW, hB8, hc8⟩
  case rest =>
    obtain ⟨rfl, rfl, g8, c8, cs8, rfl, hb1, hB8, hc8⟩ := hcut
    have hk1 := HK.out.below hb1
    have hR1 := hR0.below hb1
    have y5 := Blk.cell hk1.bs 5 rfl
    rw [HA.out] at y5
    have f5 := Blk.frozen hk1.bs 5
    have y0 := Blk.cell hk1.bs 0 rfl
    have hb01 : Below w.heap.size w wc := hB1.trans (hb1.mono (by omega))
    have hbs2 : BS (wc.setCell ⟨b, 5, none⟩ (.int .i64 ((a : Int) + 1))) b h s.fib s.bib s.last s.asked ((a : Int) + 1) s.q0 s.q1 s.i0 s.i1 := Blk.set hk1.bs 5 _
    have hx2 := hk1.hx.set hk1.bs (by decide) (by decide) (by decide) 5 (.int .i64 ((a : Int) + 1))
    have hsent := fun n => (hx2.drewN n).sent
    have hBF2 : BF w (wc.setCell ⟨b, 5, none⟩ (.int .i64 ((a : Int) + 1))) b h sv nv sv nv := ⟨(Fr.of_below hb01).setCell (.inl (.inl rfl)) _, fun _ h => .inl h⟩
    have hne : w.heap.size ≠ b := fun e => (hR1.apart hk1.bs (by decide)) e
    have hR2 : Blk (wc.setCell ⟨b, 5, none⟩ (.int .i64 ((a : Int) + 1))) w.heap.size unit0 69 := hR1.other hne _
    have hB2 : Blk (wc.setCell ⟨b, 5, none⟩ (.int .i64 ((a : Int) + 1))) g8 cs8 5 := hB8.other (fun e => (hB8.apart hk1.bs (by decide)) e) _
    have K1 := Lib.hid hk1.lst
    have C8 := Lib.hid hc8
    have R1 := Lib.hid hR2
    have B8 := Lib.hid hB2
    have X2 := Lib.hid hx2
    have S2 := Lib.hid hbs2
    have F2 := Lib.hid hBF2
    clear hat hk1 hR1 hB8 hc8 hx2 k0 k5 hR2 hB2 hbs2 hBF2 HK
    go_upto_region 7 with fail
    clear y5 f5 y0
    generalize wc.setCell ⟨b, 5, none⟩ (.int .i64 ((a : Int) + 1)) = W2 at *
    have y0' := Blk.cell S2.out 0 rfl
    have y5' := Blk.cell S2.out 5 rfl
    have f5' := Blk.frozen S2.out 5
    go_quiet ((go_at_call 24; exact Calls.quiet_of_same (hsent _)))
    clear hsent
    replace X2 := Lib.hid (X2.out.drewN nq)
    replace S2 := Lib.hid (Blk.drewN S2.out nq)
    replace F2 := Lib.hid (F2.out.drewN nq)
    replace R1 := Lib.hid (Blk.drewN R1.out nq)
    replace B8 := Lib.hid (Blk.drewN B8.out nq)
    clear y0' y5' f5'
    generalize W2.drewN nq = W3 at *
    have f5' := Blk.frozen S2.out 5
    have y5' := Blk.cell S2.out 5 rfl
    by_cases hge : s.ss.length ≤ a + 1
    · have hgeI : ((s.ss.length : Int) ≤ (a : Int) + 1) := by omega
      obtain rfl : AG = -1 := by rw [← hAG.out, if_pos hge]
      have hbs4 : BS (W3.setCell ⟨b, 5, none⟩ (.int .i64 (-1))) b h s.fib s.bib s.last s.asked (-1) s.q0 s.q1 s.i0 s.i1 := Blk.set S2.out 5 _
      have hk4 : BX (W3.setCell ⟨b, 5, none⟩ (.int .i64 (-1))) b h m o sv nv { s with ag := -1 } := ⟨hbs4, X2.out.set S2.out (by decide) (by decide) (by decide) 5 _, .inl rfl, K1.out⟩
      have hne : w.heap.size ≠ b := fun e => (R1.out.apart S2.out (by decide)) e
      have R4 : Blk (W3.setCell ⟨b, 5, none⟩ (.int .i64 (-1))) w.heap.size unit0 69 := R1.out.other hne _
      have B4 : Blk (W3.setCell ⟨b, 5, none⟩ (.int .i64 (-1))) g8 cs8 5 := B8.out.other (fun e => (B8.out.apart S2.out (by decide)) e) _
      have F4 : BF w (W3.setCell ⟨b, 5, none⟩ (.int .i64 (-1))) b h sv nv sv nv := ⟨F2.out.fr.setCell (.inl (.inl rfl)) _, F2.out.own⟩
      have hm := bmessage hbs4 N g8 x.length c8
      replace hk4 := Lib.hid hk4
      clear hbs4
      go_wp2_with fail
      clear f5' y5'
      generalize W3.setCell ⟨b, 5, none⟩ (.int .i64 (-1)) = W4 at *
      refine hm.mono ?_
      rintro e w2 ⟨rfl, hb2⟩
      have hR2 := Blk.below R4 hb2
      have hres := Blk.row hR2 [.int .u8 s.last, .int .u8 N, .bool s.bib, .bool s.fib, .int .u8 2, .int .u8 0, .bool false, .slice (some ⟨g8, 0, none⟩) x.length c8]
      have r0 := Blk.cell hres 0 rfl
      have r1 := Blk.cell hres 1 rfl
      have r2 := Blk.cell hres 2 rfl
      have r3 := Blk.cell hres 3 rfl
      have r4 := Blk.cell hres 4 rfl
      have r5 := Blk.cell hres 5 rfl
      have r6 := Blk.cell hres 6 rfl
      have r7 := Blk.cell hres 7 rfl
      have hK := hR2
      unfold Blk at hK
      go_wp2_with (refine wpList_store_row rfl 69 (.tmp 2) (.tmp 55) rfl w.heap.size #[.int .u8 s.last, .int .u8 N, .bool s.bib, .bool s.fib, .int .u8 2, .int .u8 0, .bool false, .slice (some ⟨g8, 0, none⟩) x.length c8] rfl rfl 69 _ hK (by kernel_rfl) rfl (by simp [Value.oneCell']) ?_)
      refine bodyPost_ret (v := .agg #[.int .u8 s.last, .int .u8 N, .bool s.bib, .bool s.fib, .int .u8 2, .int .u8 0, .bool false, .slice (some ⟨g8, 0, none⟩) x.length c8]) (by simp [results, Try.results42, go_sem, r0, r1, r2, r3, r4, r5, r6, r7]) rfl ?_
      have hB8' := (B4.below hb2)
      exact ⟨g8, c8, cs8, rfl, ⟨(hk4.out.below hb2).setRow hR2 (by decide) (by decide) (by decide) (by decide) _, (F4.below hb2).row (Nat.le_refl _) _⟩, hB8'.fr (Fr.row1 w2 w.heap.size _) (fun e => hB8'.apart hR2 (by decide) e), C8.out⟩
    · have hgeI : ¬ ((s.ss.length : Int) ≤ (a : Int) + 1) := by omega
      obtain rfl : AG = (a : Int) + 1 := by rw [← hAG.out, if_neg hge]
      have hk4 : BX W3 b h m o sv nv { s with ag := (a : Int) + 1 } := ⟨S2.out, X2.out, .inr ⟨by show 0 ≤ (a : Int) + 1; omega, by show (a : Int) + 1 < s.ss.length; omega⟩, K1.out⟩
      have hm := bmessage S2.out N g8 x.length c8
      replace hk4 := Lib.hid hk4
      go_wp2_with fail
      refine hm.mono ?_
      rintro e w2 ⟨rfl, hb2⟩
      have hR2 := Blk.below R1.out hb2
      have hres := Blk.row hR2 [.int .u8 s.last, .int .u8 N, .bool s.bib, .bool s.fib, .int .u8 2, .int .u8 0, .bool false, .slice (some ⟨g8, 0, none⟩) x.length c8]
      have r0 := Blk.cell hres 0 rfl
      have r1 := Blk.cell hres 1 rfl
      have r2 := Blk.cell hres 2 rfl
      have r3 := Blk.cell hres 3 rfl
      have r4 := Blk.cell hres 4 rfl
      have r5 := Blk.cell hres 5 rfl
      have r6 := Blk.cell hres 6 rfl
      have r7 := Blk.cell hres 7 rfl
      have hK := hR2
      unfold Blk at hK
      go_wp2_with (refine wpList_store_row rfl 69 (.tmp 2) (.tmp 55) rfl w.heap.size #[.int .u8 s.last, .int .u8 N, .bool s.bib, .bool s.fib, .int .u8 2, .int .u8 0, .bool false, .slice (some ⟨g8, 0, none⟩) x.length c8] rfl rfl 69 _ hK (by kernel_rfl) rfl (by simp [Value.oneCell']) ?_)
      refine bodyPost_ret (v := .agg #[.int .u8 s.last, .int .u8 N, .bool s.bib, .bool s.fib, .int .u8 2, .int .u8 0, .bool false, .slice (some ⟨g8, 0, none⟩) x.length c8]) (by simp [results, Try.results42, go_sem, r0, r1, r2, r3, r4, r5, r6, r7]) rfl ?_
      have hB8' := (B8.out.below hb2)
      exact ⟨g8, c8, cs8, rfl, ⟨(hk4.out.below hb2).setRow hR2 (by decide) (by decide) (by decide) (by decide) _, (F2.out.below hb2).row (Nat.le_refl _) _⟩, hB8'.fr (Fr.row1 w2 w.heap.size _) (fun e => hB8'.apart hR2 (by decide) e), C8.out⟩
end Go.Proofs.Ytadheikcgdhcdaa
