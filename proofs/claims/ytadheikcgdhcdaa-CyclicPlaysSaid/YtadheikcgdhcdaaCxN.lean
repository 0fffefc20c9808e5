/-
  The cyclic way in any state: the next unit.
-/
import Derived.Test.YtadheikcgdhcdaaCxA
namespace Go.Proofs.Ytadheikcgdhcdaa
open Go.RowKit
set_option linter.unusedVariables false
set_option linter.unusedSimpArgs false

set_option maxRecDepth 100000 in
/-- A new one is sent. -/
theorem CX.next_new {w : World} {b h : Nat} {m o : Int} {sv nv : Value} {s : CSt} (k : CX w b h m o sv nv s) (ha : s.force = false) (x : List Int) (rest : List (List Int)) (hn : s.ns = x :: rest) (hfit : fitsB s = true) (hl : s.ss.length < 127) :
    Calls Try.prog 48 #[.pointer (some ⟨b, 0, none⟩)] w fun e w' => ∃ (g8 c8 : Nat) (cs8 : List Value), e = .returned (.agg #[.int .u8 s.last, .int .u8 ((s.f + s.ss.length) % 128), .bool true, .bool true, .int .u8 2, .int .u8 0, .bool false, .slice (some ⟨g8, 0, none⟩) x.length c8]) ∧
      (∃ sv' nv', CX w' b h m o sv' nv' { s with ss := s.ss ++ [x], ns := rest } ∧ BF w w' b h sv nv sv' nv') ∧ Blk w' g8 cs8 5 ∧ (∀ (j : Nat) (u : Value), (x.map (Value.int .u8))[j]? = some u → cs8[j]? = some u) := by
  have hR0 := Blk.new w unit0 69
  have hB1 : Below w.heap.size w (w.alloc (.cells unit0.toArray 69)) := (Below.refl _ _).alloc (Nat.le_refl _) _
  have k1 := k.below hB1
  have k0 := Blk.cell k1.cs 0 rfl
  have k5 := Blk.cell k1.cs 5 rfl
  rw [ha] at k5
  have hnx := k1.hx.nexts
  have hfi := k1.fits
  rw [hfit] at hfi
  have hlen : (0 : Int) < (s.ns.length : Int) := by rw [hn]; simp
  have hsend : ∀ n, Calls Try.prog 22 #[.pointer (some ⟨h, 0, none⟩)] ((w.alloc (.cells unit0.toArray 69)).drewN n) fun e w' => ∃ (g8 c8 : Nat) (cs8 : List Value), e = .returned (.tuple #[.int .u8 ((s.f + s.ss.length) % 128), .slice (some ⟨g8, 0, none⟩) x.length c8, .int .i64 0]) ∧ (∃ sv' nv', HX w' h m o s.f sv' nv' (s.ss ++ [x]) rest ∧ HF ((w.alloc (.cells unit0.toArray 69)).drewN n) w' h sv nv sv' nv') ∧ Blk w' g8 cs8 5 ∧ (∀ (j : Nat) (u : Value), (x.map (Value.int .u8))[j]? = some u → cs8[j]? = some u) ∧ ((w.alloc (.cells unit0.toArray 69)).drewN n).heap.size ≤ g8 := fun n => by
    have hx1 := k1.hx.drewN n
    rw [hn] at hx1
    exact hx1.send_ok hl
  obtain ⟨N, hN⟩ : ∃ N, (s.f + (s.ss.length : Int)) % 128 = N := ⟨_, rfl⟩
  rw [hN] at hsend ⊢
  have HK := Lib.hid k1
  have HA := Lib.hid ha
  have HN := Lib.hid hn
  clear k1 ha hn k hfit hl
  go_enter Try.func48, Try.ntmps48
  go_wp2_with fail
  refine hnx.mono ?_
  rintro e w' ⟨rfl, rfl⟩
  go_wp2_with fail
  refine hfi.mono ?_
  rintro e w' ⟨rfl, n1, rfl⟩
  go_wp2_with fail
  refine (hsend n1).mono ?_
  rintro e w1 ⟨g8, c8, cs8, rfl, ⟨sv', nv', hx2, hF2⟩, hB8, hc8, -⟩
  have hF2b : BF ((w.alloc (.cells unit0.toArray 69)).drewN n1) w1 b h sv nv sv' nv' := .of_hf hF2
  have hBS2 : CS w1 b h s.n1 s.n2 s.last s.pl s.force s.q0 s.q1 := (HK.out.drewN n1).far hF2
  have hR1 : Blk w1 w.heap.size unit0 69 := (HK.out.drewN n1).keep hF2b (hR0.drewN n1) (by decide) (by decide) (by decide)
  have hk2 : CX w1 b h m o sv' nv' { s with ss := s.ss ++ [x], ns := rest } := ⟨hBS2, hx2, by have := HK.out.inv; show s.pl ≤ (s.ss ++ [x]).length; simp; omega, HK.out.lst⟩
  have HK2 := Lib.hid hk2
  have HC := Lib.hid hc8
  clear hsend k0 k5 hx2 hk2 hc8 hnx hfi hlen
  go_wp2_with fail
  refine (cmessage hBS2 N g8 x.length c8).mono ?_
  rintro e w2 ⟨rfl, hb2⟩
  have hR2 := Blk.below hR1 hb2
  have hres := Blk.row hR2 [.int .u8 s.last, .int .u8 N, .bool true, .bool true, .int .u8 2, .int .u8 0, .bool false, .slice (some ⟨g8, 0, none⟩) x.length c8]
  have r0 := Blk.cell hres 0 rfl
  have r1 := Blk.cell hres 1 rfl
  have r2 := Blk.cell hres 2 rfl
  have r3 := Blk.cell hres 3 rfl
  have r4 := Blk.cell hres 4 rfl
  have r5 := Blk.cell hres 5 rfl
  have r6 := Blk.cell hres 6 rfl
  have r7 := Blk.cell hres 7 rfl
  have hK := hR2
  unfold Blk at hK
  go_wp2_with (refine wpList_store_row rfl 69 (.tmp 2) (.tmp 45) rfl w.heap.size #[.int .u8 s.last, .int .u8 N, .bool true, .bool true, .int .u8 2, .int .u8 0, .bool false, .slice (some ⟨g8, 0, none⟩) x.length c8] rfl rfl 69 _ hK (by kernel_rfl) rfl (by simp [Value.oneCell']) ?_)
  refine bodyPost_ret (v := .agg #[.int .u8 s.last, .int .u8 N, .bool true, .bool true, .int .u8 2, .int .u8 0, .bool false, .slice (some ⟨g8, 0, none⟩) x.length c8]) (by simp [results, Try.results48, go_sem, r0, r1, r2, r3, r4, r5, r6, r7]) rfl ?_
  have hB8' := (hB8.below hb2)
  exact ⟨g8, c8, cs8, rfl, ⟨sv', nv', (HK2.out.below hb2).setRow hR2 (by decide) (by decide) (by decide) (by decide) _, ((((BF.of_below sv nv hB1).drewN n1).trans hF2b).below hb2).row (Nat.le_refl _) _⟩, hB8'.fr (Fr.row1 w2 w.heap.size _) (fun e => hB8'.apart hR2 (by decide) e), HC.out⟩

/-- Must what waits be sent again first? -/
def forceB (s : CSt) : Bool := s.force || (decide (0 < s.ns.length) && !fitsB s)
/-- The place that is sent again, and what must be behind it. -/
def placeC (s : CSt) : Nat := if s.ss.length ≤ s.pl then 0 else s.pl
def forceC (s : CSt) : Bool := if s.ss.length ≤ s.pl then decide (0 < s.ns.length) && !fitsB s else forceB s

set_option maxHeartbeats 4000000 in
set_option maxRecDepth 100000 in
/-- Nothing new goes. -/
theorem CX.next_old {w : World} {b h : Nat} {m o : Int} {sv nv : Value} {s : CSt} (k : CX w b h m o sv nv s) (ho : s.ns = [] ∨ forceB s = true) :
    Calls Try.prog 48 #[.pointer (some ⟨b, 0, none⟩)] w fun e w' =>
      (s.ss = [] ∧ e = .returned (.agg #[.int .u8 s.last, .int .u8 ((s.f - 1) % 128), .bool true, .bool true, .int .u8 0, .int .u8 0, .bool false, .slice none 0 0]) ∧ CX w' b h m o sv nv { s with pl := 0, force := false } ∧ BF w w' b h sv nv sv nv) ∨
      (∃ (x : List Int) (g8 c8 : Nat) (cs8 : List Value), s.ss[placeC s]? = some x ∧ e = .returned (.agg #[.int .u8 s.last, .int .u8 ((s.f + placeC s) % 128), .bool true, .bool true, .int .u8 2, .int .u8 0, .bool false, .slice (some ⟨g8, 0, none⟩) x.length c8]) ∧
        CX w' b h m o sv nv { s with pl := placeC s + 1, force := forceC s } ∧ BF w w' b h sv nv sv nv ∧ Blk w' g8 cs8 5 ∧ (∀ (j : Nat) (u : Value), (x.map (Value.int .u8))[j]? = some u → cs8[j]? = some u)) := by
  have hR0 := Blk.new w unit0 69
  have hB1 : Below w.heap.size w (w.alloc (.cells unit0.toArray 69)) := (Below.refl _ _).alloc (Nat.le_refl _) _
  have k1 := k.below hB1
  have k0 := Blk.cell k1.cs 0 rfl
  have k5 := Blk.cell k1.cs 5 rfl
  have f5 := Blk.frozen k1.cs 5
  have hnx := k1.hx.nexts
  have hfi := k1.fits
  have hwin := k1.hx.win
  have K1 := Lib.hid k1
  have HB := Lib.hid hB1
  have R0 := Lib.hid hR0
  have HO := Lib.hid ho
  obtain ⟨P, hPP⟩ : ∃ P, placeC s = P := ⟨_, rfl⟩
  obtain ⟨F, hFF⟩ : ∃ F, forceC s = F := ⟨_, rfl⟩
  rw [hPP, hFF]
  obtain ⟨N0, hN0⟩ : ∃ N, (s.f - 1) % 128 = N := ⟨_, rfl⟩
  obtain ⟨N1, hN1⟩ : ∃ N, (s.f + (P : Int)) % 128 = N := ⟨_, rfl⟩
  rw [hN0, hN1]
  replace hN0 := Lib.hid hN0
  replace hN1 := Lib.hid hN1
  replace hPP := Lib.hid hPP
  replace hFF := Lib.hid hFF
  clear k1 k ho hB1 hR0
  go_enter Try.func48, Try.ntmps48
  go_upto_region 3 with fail
  generalize w.alloc (.cells unit0.toArray 69) = W at *
  go_cut [22] (fun v wx => v = .bool (decide (0 < s.ns.length) && !fitsB s) ∧ ∃ n, wx = W.drewN n)
  case first =>
    by_cases h0 : 0 < s.ns.length
    · have h0i : (0 : Int) < (s.ns.length : Int) := by omega
      go_wp2_with fail
      refine hnx.mono ?_
      rintro e w' ⟨rfl, rfl⟩
      go_wp2_with fail
      refine hfi.mono ?_
      rintro e w' ⟨rfl, n1, rfl⟩
      go_wp2
      go_meet
      exact ⟨by simp [h0], n1, rfl⟩
    · have h0i : ¬ ((0 : Int) < (s.ns.length : Int)) := by omega
      go_wp2_with fail
      refine hnx.mono ?_
      rintro e w' ⟨rfl, rfl⟩
      go_wp2
      go_meet
      exact ⟨by simp [h0], 0, rfl⟩
  case rest =>
    obtain ⟨rfl, n1, rfl⟩ := hcut
    obtain ⟨G, hG⟩ : ∃ G, (decide (0 < s.ns.length) && !fitsB s) = G := ⟨_, rfl⟩
    have hFB : forceB s = (s.force || G) := by unfold forceB; rw [hG]
    have hFC : forceC s = if s.ss.length ≤ s.pl then G else (s.force || G) := by unfold forceC; rw [hG, hFB]
    rw [hG]
    have hGn : G = true → 0 < s.ns.length ∧ fitsB s = false := by rw [← hG]; simp
    have k2 := K1.out.drewN n1
    have hx2 := k2.hx
    have hcs2 : CS (W.drewN n1) b h s.n1 s.n2 s.last s.pl s.force s.q0 s.q1 := k2.cs
    have R2 : Blk (W.drewN n1) w.heap.size unit0 69 := R0.out.drewN n1
    have F2 : BF w (W.drewN n1) b h sv nv sv nv := (BF.of_below sv nv HB.out).drewN n1
    have hlst : 0 ≤ s.last ∧ s.last ≤ 127 := k2.lst
    have hinv : s.pl ≤ s.ss.length := k2.inv
    have HG := Lib.hid hG
    have HGN := Lib.hid hGn
    have HFB := Lib.hid hFB
    have HFC := Lib.hid hFC
    have HX2 := Lib.hid hx2
    have S2 := Lib.hid hcs2
    have HR2 := Lib.hid R2
    have HF2 := Lib.hid F2
    have HI := Lib.hid hinv
    have HL := Lib.hid hlst
    clear k2 hx2 hcs2 R2 F2 K1 R0 HB hnx hfi k0 k5 f5 hG hFB hFC hGn hinv hlst
    generalize W.drewN n1 = W2 at *
    go_upto_if 22 with fail
    go_cut [] (fun wx => CS wx b h s.n1 s.n2 s.last s.pl (s.force || G) s.q0 s.q1 ∧ Fr (· = b) W2 wx)
    case first =>
      have f5 := Blk.frozen S2.out 5
      have k5 := Blk.cell S2.out 5 rfl
      cases G
      · go_wp2
        go_meet
        rw [Bool.or_false]
        exact ⟨S2.out, Fr.refl _ _⟩
      · go_wp2
        go_meet
        rw [Bool.or_true]
        exact ⟨Blk.set S2.out 5 _, Fr.set1 W2 ⟨b, 5, none⟩ _⟩
    case rest =>
      obtain ⟨hcs3, hF3⟩ := hcut
      have hx3 := HX2.out.bfr120 S2.out hF3
      have F3 := HF2.out.trans (.of_b hF3)
      have R3 := HR2.out.fr hF3 (fun e => (HR2.out.apart S2.out (by decide)) e)
      obtain ⟨F1, hF1⟩ : ∃ F1, (s.force || G) = F1 := ⟨_, rfl⟩
      rw [hF1] at hcs3
      have k5 := Blk.cell hcs3 5 rfl
      have k0 := Blk.cell hcs3 0 rfl
      have hno : F1 = false → s.ns = [] := fun e => by
        rcases HO.out with h | h
        · exact h
        · rw [HFB.out, hF1, e] at h; cases h
      have hsn : F1 = false → Calls Try.prog 22 #[.pointer (some ⟨h, 0, none⟩)] wc fun e w' => e = .returned (.tuple #[.int .u8 0, .slice none 0 0, .int .i64 2]) ∧ w' = wc := fun e => by
        have hh := hx3
        rw [hno e] at hh
        exact hh.send_none
      have HX3 := Lib.hid hx3
      have S3 := Lib.hid hcs3
      have HR3 := Lib.hid R3
      have HF3 := Lib.hid F3
      have H1 := Lib.hid hF1
      have HSN := Lib.hid hsn
      clear hx3 hcs3 R3 F3 HX2 S2 HR2 HF2 hF3 hF1 hno hsn
      go_upto_if 30 with fail
      go_cut [3, 4, 5] (fun _ _ _ wx => wx = wc)
      case first =>
        cases F1
        · go_wp2_with fail
          refine (HSN.out (by simp)).mono ?_
          rintro e w' ⟨rfl, rfl⟩
          go_wp2
          go_meet
          rfl
        · go_wp2
          go_meet
          rfl
      case rest =>
        obtain rfl := hcut
        clear HSN k5
        have hse := fun n => (HX3.out.drewN n).sent
        have k4 := Blk.cell S3.out 4 rfl
        go_upto_region 9 with fail
        go_quiet ((go_at_call 24; exact Calls.quiet_of_same (hse _)))
        clear hse k4 k0
        replace HX3 := Lib.hid (HX3.out.drewN nq)
        replace S3 := Lib.hid (Blk.drewN S3.out nq)
        replace HR3 := Lib.hid (Blk.drewN HR3.out nq)
        replace HF3 := Lib.hid (HF3.out.drewN nq)
        generalize wc.drewN nq = W4 at *
        have hfw : ∀ W' n, W' = W4.drewN n → Blk W' b [.pointer (some ⟨h, 0, none⟩), .int .i64 s.n1, .int .i64 s.n2, .int .u8 s.last, .int .i64 s.pl, .bool F1, .bool s.q0, .bool s.q1] 120 := fun W' n e => by rw [e]; exact Blk.drewN S3.out n
        have k0 := Blk.cell S3.out 0 rfl
        have k4 := Blk.cell S3.out 4 rfl
        have k5 := Blk.cell S3.out 5 rfl
        have f4 := Blk.frozen S3.out 4
        have f5 := Blk.frozen S3.out 5
        have hnx := HX3.out.nexts
        have k4x : CX W4 b h m o sv nv { s with force := F1 } := ⟨S3.out, HX3.out, HI.out, HL.out⟩
        have hfi := k4x.fits
        rw [show fitsB { s with force := F1 } = fitsB s from rfl] at hfi
        clear k4x
        have HFI := Lib.hid hfi
        have HNX := Lib.hid hnx
        clear hfi hnx
        go_upto_if 55 with fail
        go_cut [] (fun wx => ∃ (n : Nat), CS wx b h s.n1 s.n2 s.last P F s.q0 s.q1 ∧ Fr (· = b) (W4.drewN n) wx)
        case first =>
          by_cases hge : s.ss.length ≤ s.pl
          · have hgei : (s.ss.length : Int) ≤ (s.pl : Int) := by omega
            have hP : P = 0 := by rw [← hPP.out]; unfold placeC; rw [if_pos hge]
            have hF : F = G := by rw [← hFF.out, HFC.out, if_pos hge]
            by_cases h0 : 0 < s.ns.length
            · have h0i : (0 : Int) < (s.ns.length : Int) := by omega
              have hgf : G = !fitsB s := by rw [← HG.out]; simp [h0]
              have HPF := Lib.hid (And.intro hP hF)
              have HGF := Lib.hid hgf
              clear hP hF hge hgf
              go_wp2_with fail
              refine HNX.out.mono ?_
              rintro e w' ⟨rfl, rfl⟩
              go_wp2_with fail
              refine HFI.out.mono ?_
              rw [show fitsB s = !G from by rw [HGF.out, Bool.not_not]]
              rintro e w' ⟨rfl, n2, rfl⟩
              have s2 := Blk.drewN S3.out n2
              have g4 := Blk.frozen s2 4
              have g5 := Blk.frozen s2 5
              have y4 := Blk.cell s2 4 rfl
              have y5 := Blk.cell s2 5 rfl
              clear f4 f5 k4 k5 k0
              generalize hW5 : w'.drewN n2 = W5 at s2 g4 g5 y4 y5 ⊢
              go_wp2
              go_meet
              refine ⟨n2, ?_⟩
              rw [hW5, HPF.out.1, HPF.out.2]
              first
                | exact ⟨Blk.set (Blk.set s2 4 _) 5 _, Fr.setCell (S := fun q => q = b) (p := ⟨b, 5, none⟩) (Fr.set1 W5 ⟨b, 4, none⟩ _) (.inl rfl) _⟩
                | (rw [Bool.not_not]; exact ⟨Blk.set (Blk.set s2 4 _) 5 _, Fr.setCell (S := fun q => q = b) (p := ⟨b, 5, none⟩) (Fr.set1 W5 ⟨b, 4, none⟩ _) (.inl rfl) _⟩)
            · have h0i : ¬ ((0 : Int) < (s.ns.length : Int)) := by omega
              have hgf : G = false := by rw [← HG.out]; simp [h0]
              have HPF := Lib.hid (And.intro hP hF)
              have HGF := Lib.hid hgf
              clear hP hF hge hgf
              go_wp2_with fail
              refine HNX.out.mono ?_
              rintro e w' ⟨rfl, rfl⟩
              go_wp2
              go_meet
              refine ⟨0, ?_⟩
              rw [HPF.out.1, HPF.out.2, HGF.out]
              exact ⟨Blk.set (Blk.set S3.out 4 _) 5 _, Fr.setCell (S := fun q => q = b) (p := ⟨b, 5, none⟩) (Fr.set1 _ ⟨b, 4, none⟩ _) (.inl rfl) _⟩
          · have hgei : ¬ ((s.ss.length : Int) ≤ (s.pl : Int)) := by omega
            have hP : P = s.pl := by rw [← hPP.out]; unfold placeC; rw [if_neg hge]
            have hF : F = F1 := by rw [← hFF.out, HFC.out, if_neg hge, H1.out]
            have HPF := Lib.hid (And.intro hP hF)
            clear hP hF hge
            go_wp2
            go_meet
            refine ⟨0, ?_⟩
            rw [HPF.out.1, HPF.out.2]
            exact ⟨S3.out, Fr.refl _ _⟩
        case rest =>
          obtain ⟨n5, hcs6, hF6⟩ := hcut
          have hx6 := (HX3.out.drewN n5).bfr120 (Blk.drewN S3.out n5) hF6
          have F6 := (HF3.out.drewN n5).trans (.of_b hF6)
          have R6 := (Blk.drewN HR3.out n5).fr hF6 (fun e => (Blk.apart HR3.out S3.out (by decide)) e)
          have hPl : P = 0 ∨ P < s.ss.length := by
            rw [← hPP.out]; unfold placeC; split
            · exact .inl rfl
            · exact .inr (by omega)
          have HX6 := Lib.hid hx6
          have S6 := Lib.hid hcs6
          have HR6 := Lib.hid R6
          have HF6 := Lib.hid F6
          clear hx6 hcs6 R6 F6 HX3 S3 HR3 HF3 hF6 hfw HFI HNX k0 k4 k5 f4 f5
          have hnil : s.ss = [] ∨ ∃ x, s.ss[P]? = some x := by
            by_cases hz : s.ss.length = 0
            · exact .inl (List.eq_nil_of_length_eq_zero hz)
            · exact .inr ⟨_, List.getElem?_eq_getElem (by omega)⟩
          have k0 := Blk.cell S6.out 0 rfl
          have k4 := Blk.cell S6.out 4 rfl
          go_upto_region 11 with fail
          rcases hnil with hnil | ⟨x, hx⟩
          · have hlen : s.ss.length = 0 := by rw [hnil]; rfl
            have hP0 : P = 0 := by omega
            have hF0 : F = false := by
              rw [← hFF.out, HFC.out, if_pos (by omega), ← HG.out]
              simp [fitsB, hlen]
            subst hP0 hF0
            have hat := fun n => (HX6.out.drewN n).at_none 0 (.inr (by omega))
            have kx : CX wc b h m o sv nv { s with pl := 0, force := false } := ⟨S6.out, HX6.out, Nat.zero_le _, HL.out⟩
            have hfi := fun n => (kx.drewN n).fill
            have KX := Lib.hid kx
            have HNIL := Lib.hid hnil
            rw [show (({ s with pl := 0, force := false } : CSt).f + ({ s with pl := 0, force := false } : CSt).ss.length - 1) % 128 = N0 from by show (s.f + (s.ss.length : Int) - 1) % 128 = N0; rw [hlen, ← hN0.out]; congr 1; omega] at hfi
            clear kx hnil
            go_quiet ((go_at_call 81; exact Calls.quiet_of_same (hat _)))
            go_wp2_with fail
            refine (hfi nq).mono ?_
            rintro e w2 ⟨rfl, hb2⟩
            have hR2 := Blk.below (Blk.drewN HR6.out nq) hb2
            have hres := Blk.row hR2 [.int .u8 s.last, .int .u8 N0, .bool true, .bool true, .int .u8 0, .int .u8 0, .bool false, .slice none 0 0]
            have r0 := Blk.cell hres 0 rfl
            have r1 := Blk.cell hres 1 rfl
            have r2 := Blk.cell hres 2 rfl
            have r3 := Blk.cell hres 3 rfl
            have r4 := Blk.cell hres 4 rfl
            have r5 := Blk.cell hres 5 rfl
            have r6 := Blk.cell hres 6 rfl
            have r7 := Blk.cell hres 7 rfl
            have hK := hR2
            unfold Blk at hK
            go_wp2_with (refine wpList_store_row rfl 69 (.tmp 2) (.tmp 89) rfl w.heap.size #[.int .u8 s.last, .int .u8 N0, .bool true, .bool true, .int .u8 0, .int .u8 0, .bool false, .slice none 0 0] rfl rfl 69 _ hK (by kernel_rfl) rfl (by simp [Value.oneCell']) ?_)
            refine bodyPost_ret (v := .agg #[.int .u8 s.last, .int .u8 N0, .bool true, .bool true, .int .u8 0, .int .u8 0, .bool false, .slice none 0 0]) (by simp [results, Try.results48, go_sem, r0, r1, r2, r3, r4, r5, r6, r7]) rfl ?_
            refine .inl ⟨HNIL.out, rfl, ((KX.out.drewN nq).below hb2).setRow hR2 (by decide) (by decide) (by decide) (by decide) _, ((HF6.out.drewN nq).below hb2).row (Nat.le_refl _) _⟩
          · have hat := (HX6.out.drewN 1).at_ok P x hx
            have hPlt : P < s.ss.length := (List.getElem?_eq_some_iff.1 hx).1
            have hwP : IntKind.i64.wrap ((P : Int) + 1) = (P : Int) + 1 := wrapH _ (by omega)
            rw [hN1.out] at hat
            have HPX := Lib.hid (And.intro hx hPlt)
            clear hx hPlt
            go_cut [6, 7, 8] (fun n p e wx => n = .int .u8 N1 ∧ e = .int .i64 0 ∧ ∃ (g8 c8 : Nat) (cs8 : List Value), p = .slice (some ⟨g8, 0, none⟩) x.length c8 ∧ Below wc.heap.size wc wx ∧ Blk wx g8 cs8 5 ∧ (∀ (j : Nat) (u : Value), (x.map (Value.int .u8))[j]? = some u → cs8[j]? = some u))
            case first =>
              go_region_with (go_at_call 81; refine hat.mono ?_; rintro e w1 ⟨g8, c8, cs8, rfl, hb1, hB8, hc8, -⟩; have hbW : Below wc.heap.size wc w1 := (below_drewN (Below.refl _ _) 1).trans hb1; clear hb1)
              all_goals go_wp2
              all_goals go_meet
              all_goals exact ⟨rfl, rfl, g8, c8, cs8, rfl, hbW, hB8, hc8⟩
            case rest =>
              obtain ⟨rfl, rfl, g8, c8, cs8, rfl, hb1, hB8, hc8⟩ := hcut
              have S7 : CS wc b h s.n1 s.n2 s.last P F s.q0 s.q1 := Blk.below S6.out hb1
              have X7 := HX6.out.below hb1
              have R7 := Blk.below HR6.out hb1
              have F7 := HF6.out.below hb1
              have k4 := Blk.cell S7 4 rfl
              have f4 := Blk.frozen S7 4
              have S8 : CS (wc.setCell ⟨b, 4, none⟩ (.int .i64 ((P : Int) + 1))) b h s.n1 s.n2 s.last ((P + 1 : Nat) : Int) F s.q0 s.q1 := Blk.set S7 4 _
              have kx : CX (wc.setCell ⟨b, 4, none⟩ (.int .i64 ((P : Int) + 1))) b h m o sv nv { s with pl := P + 1, force := F } := ⟨S8, X7.bfr120 S7 (Fr.set1 wc ⟨b, 4, none⟩ _), HPX.out.2, HL.out⟩
              have R8 := R7.other (fun e => (R7.apart S7 (by decide)) e) (a := ⟨b, 4, none⟩) (.int .i64 ((P : Int) + 1))
              have B8 := hB8.other (fun e => (hB8.apart S7 (by decide)) e) (a := ⟨b, 4, none⟩) (.int .i64 ((P : Int) + 1))
              have F8 : BF w (wc.setCell ⟨b, 4, none⟩ (.int .i64 ((P : Int) + 1))) b h sv nv sv nv := ⟨F7.fr.setCell (.inl (.inl rfl)) _, F7.own⟩
              have hm := cmessage S8 N1 g8 x.length c8
              have KX := Lib.hid kx
              have HR8 := Lib.hid R8
              have HB8 := Lib.hid B8
              have HF8 := Lib.hid F8
              have HC8 := Lib.hid hc8
              clear S7 X7 R7 F7 S8 kx R8 B8 F8 hB8 hc8 hb1 S6 HX6 HR6 HF6 k0
              go_wp2_with fail
              refine hm.mono ?_
              clear k4 f4 hm
              generalize wc.setCell ⟨b, 4, none⟩ (.int .i64 ((P : Int) + 1)) = W9 at *
              rintro e w2 ⟨rfl, hb2⟩
              have hR2 := Blk.below HR8.out hb2
              have hres := Blk.row hR2 [.int .u8 s.last, .int .u8 N1, .bool true, .bool true, .int .u8 2, .int .u8 0, .bool false, .slice (some ⟨g8, 0, none⟩) x.length c8]
              have r0 := Blk.cell hres 0 rfl
              have r1 := Blk.cell hres 1 rfl
              have r2 := Blk.cell hres 2 rfl
              have r3 := Blk.cell hres 3 rfl
              have r4 := Blk.cell hres 4 rfl
              have r5 := Blk.cell hres 5 rfl
              have r6 := Blk.cell hres 6 rfl
              have r7 := Blk.cell hres 7 rfl
              have hK := hR2
              unfold Blk at hK
              go_wp2_with (refine wpList_store_row rfl 69 (.tmp 2) (.tmp 100) rfl w.heap.size #[.int .u8 s.last, .int .u8 N1, .bool true, .bool true, .int .u8 2, .int .u8 0, .bool false, .slice (some ⟨g8, 0, none⟩) x.length c8] rfl rfl 69 _ hK (by kernel_rfl) rfl (by simp [Value.oneCell']) ?_)
              refine bodyPost_ret (v := .agg #[.int .u8 s.last, .int .u8 N1, .bool true, .bool true, .int .u8 2, .int .u8 0, .bool false, .slice (some ⟨g8, 0, none⟩) x.length c8]) (by simp [results, Try.results48, go_sem, r0, r1, r2, r3, r4, r5, r6, r7]) rfl ?_
              have hB8' := (HB8.out.below hb2)
              exact .inr ⟨x, g8, c8, cs8, HPX.out.1, rfl, (KX.out.below hb2).setRow hR2 (by decide) (by decide) (by decide) (by decide) _, (HF8.out.below hb2).row (Nat.le_refl _) _, hB8'.fr (Fr.row1 w2 w.heap.size _) (fun e => hB8'.apart hR2 (by decide) e), HC8.out⟩
end Go.Proofs.Ytadheikcgdhcdaa
