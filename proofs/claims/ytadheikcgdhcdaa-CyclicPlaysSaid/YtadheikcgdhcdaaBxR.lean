/-
  The basic way in any state: a unit's answer.
-/
import Derived.Test.YtadheikcgdhcdaaBxA
namespace Go.Proofs.Ytadheikcgdhcdaa
open Go.RowKit
set_option linter.unusedVariables false
set_option linter.unusedSimpArgs false

theorem HX.bfr {w w' : World} {b h : Nat} {m o f : Int} {sv nv : Value} {ss ns : List (List Int)} {cs : List Value} (k : HX w h m o f sv nv ss ns) (hB : Blk w b cs 116) (hF : Fr (· = b) w w') : HX w' h m o f sv nv ss ns :=
  k.fr hF (fun e => (hB.apart k.blk (by decide)) e.symm) (fun q hq e => by obtain ⟨ds, hd⟩ := k.row33 hq; exact (hd.apart hB (by decide)) e) (fun g cs hG e => (hG.apart hB (by decide)) e)
theorem see6 (b h : Nat) (fib bib : Bool) (last : Int) (asked : Bool) (ag : Int) (q0 q1 i0 i1 odd : Bool) (w : World) (hB : BS w b h fib bib last asked ag q0 q1 i0 i1) :
    Calls Try.prog 26 #[.pointer (some ⟨b, 6, none⟩), .bool odd] w fun e w' => e = .returned (.bool (odd && (q0 || q1))) ∧ BS w' b h fib bib last asked ag q1 odd i0 i1 ∧ Fr (· = b) w w' := by
  have c0 := Blk.cell hB 6 rfl
  have c1 := Blk.cell hB 7 rfl
  have f0 := Blk.frozen hB 6
  have f1 := Blk.frozen hB 7
  have hb1 : BS ((w.drew.setCell ⟨b, 6, none⟩ (.bool q1)).setCell ⟨b, 7, none⟩ (.bool odd)) b h fib bib last asked ag q1 odd i0 i1 := Blk.set (Blk.set (Blk.drew hB) 6 (.bool q1)) 7 (.bool odd)
  have hb2 : BS ((w.drew.setCell ⟨b, 7, none⟩ (.bool odd)).setCell ⟨b, 6, none⟩ (.bool q1)) b h fib bib last asked ag q1 odd i0 i1 := Blk.set (Blk.set (Blk.drew hB) 7 (.bool odd)) 6 (.bool q1)
  have hf1 : Fr (· = b) w ((w.drew.setCell ⟨b, 6, none⟩ (.bool q1)).setCell ⟨b, 7, none⟩ (.bool odd)) := Fr.setCell (S := (· = b)) (p := ⟨b, 7, none⟩) (Fr.setCell (S := (· = b)) (p := ⟨b, 6, none⟩) (Fr.refl _ w).drew (.inl rfl) _) (.inl rfl) _
  have hf2 : Fr (· = b) w ((w.drew.setCell ⟨b, 7, none⟩ (.bool odd)).setCell ⟨b, 6, none⟩ (.bool q1)) := Fr.setCell (S := (· = b)) (p := ⟨b, 6, none⟩) (Fr.setCell (S := (· = b)) (p := ⟨b, 7, none⟩) (Fr.refl _ w).drew (.inl rfl) _) (.inl rfl) _
  have B1 := Lib.hid hb1
  have B2 := Lib.hid hb2
  have F1 := Lib.hid hf1
  have F2 := Lib.hid hf2
  clear hb1 hb2 hf1 hf2 hB
  cases odd <;> cases q0 <;> cases q1
  all_goals
    go_enter Try.func26, Try.ntmps26
    go_upto_region 2 with fail
    go_region
    all_goals go_wp2
    all_goals go_ret
    all_goals first | exact ⟨rfl, B1.out, F1.out⟩ | exact ⟨rfl, B2.out, F2.out⟩

theorem BX.answer_no {w : World} {b h : Nat} {m o : Int} {sv nv : Value} {s : BSt} (k : BX w b h m o sv nv s) (bsn fsn kind st : Int) (bib fib x : Bool) (iv : Value) (hiv : iv.oneCell' = true) (hn : 0 ≤ bsn ∧ bsn ≤ 255) (hk : knowsB s.f s.ss.length bsn = false) :
    Calls Try.prog 43 #[.pointer (some ⟨b, 0, none⟩), .agg #[.int .u8 bsn, .int .u8 fsn, .bool bib, .bool fib, .int .u8 kind, .int .u8 st, .bool x, iv]] w fun e w' => e = .returned (.tuple #[.int .i64 0, .int .i64 (if (s.q0 || s.q1) = true then 10 else 0)]) ∧ BX w' b h m o sv nv { s with q0 := s.q1, q1 := true } ∧ BF w w' b h sv nv sv nv := by
  have hU := Blk.new w [.int .u8 bsn, .int .u8 fsn, .bool bib, .bool fib, .int .u8 kind, .int .u8 st, .bool x, iv] 69
  have hB1 : Below w.heap.size w (w.alloc (.cells [.int .u8 bsn, .int .u8 fsn, .bool bib, .bool fib, .int .u8 kind, .int .u8 st, .bool x, iv].toArray 69)) := (Below.refl _ _).alloc (Nat.le_refl _) _
  have k1 := k.below hB1
  have u0 := hU.cell 0 rfl
  have y0 := Blk.cell k1.bs 0 rfl
  have hkn := fun n => (k1.hx.drewN n).knows bsn hn
  rw [hk] at hkn
  have K1 := Lib.hid k1
  have HB := Lib.hid hB1
  clear k1 hB1 k hU
  obtain ⟨C, hC⟩ : ∃ C : Int, (if (s.q0 || s.q1) = true then (10 : Int) else 0) = C := ⟨_, rfl⟩
  rw [hC]
  have hqq := Lib.hid hC
  clear hC
  go_enter Try.func43, Try.ntmps43
  go_upto_region 3 with fail
  generalize w.alloc (.cells [.int .u8 bsn, .int .u8 fsn, .bool bib, .bool fib, .int .u8 kind, .int .u8 st, .bool x, iv].toArray 69) = W at *
  go_quiet ((go_at_call 72; exact Calls.quiet_of (hkn _)))
  go_wp2_with fail
  have k2 := K1.out.drewN nq
  refine (see6 b h _ _ _ _ _ _ _ _ _ true _ k2.bs).mono ?_
  rintro e w1 ⟨rfl, hbs, hF⟩
  have hbx : BX w1 b h m o sv nv { s with q0 := s.q1, q1 := true } := ⟨hbs, k2.hx.fr hF (fun e => (k2.bs.apart k2.hx.blk (by decide)) e.symm) (fun q hq e => by obtain ⟨ds, hd⟩ := k2.hx.row33 hq; exact (hd.apart k2.bs (by decide)) e) (fun g cs hG e => (hG.apart k2.bs (by decide)) e), k2.inv, k2.lst⟩
  have hBF : BF w w1 b h sv nv sv nv := ((BF.of_below sv nv HB.out).drewN nq).trans (.of_b hF)
  by_cases hq : (s.q0 || s.q1) = true
  · have hC : C = 10 := by rw [← hqq.out, if_pos hq]
    subst hC
    go_wp2
    refine bodyPost_ret (v := .tuple #[.int .i64 0, .int .i64 10]) (by simp [results, Try.results43, go_sem]) rfl ?_
    exact ⟨rfl, hbx, hBF⟩
  · have hC : C = 0 := by rw [← hqq.out, if_neg hq]
    subst hC
    have hq2 : (s.q0 || s.q1) = false := by simpa using hq
    go_wp2
    refine bodyPost_ret (v := .tuple #[.int .i64 0, .int .i64 0]) (by simp [results, Try.results43, go_sem]) rfl ?_
    exact ⟨rfl, hbx, hBF⟩

/-- From which place on it is sent again, behind i that are answered. -/
def agFree (ag : Int) (i len : Nat) : Int := if (len : Int) ≤ (if 0 ≤ ag then max 0 (ag - i) else ag) then -1 else (if 0 ≤ ag then max 0 (ag - i) else ag)
/-- A basic way behind a unit's answer. -/
def ansB (s : BSt) (bsn : Int) (bib : Bool) (i : Nat) : BSt :=
  { s with q0 := s.q1, q1 := false, f := (bsn + 1) % 128, ss := s.ss.drop i, fib := bib, ag := if bib = s.fib then agFree s.ag i (s.ss.drop i).length else if 0 < (s.ss.drop i).length then 0 else -1 }

set_option maxHeartbeats 2000000 in
set_option maxRecDepth 100000 in
theorem BX.answer_yes {w : World} {b h : Nat} {m o : Int} {sv nv : Value} {s : BSt} (k : BX w b h m o sv nv s) (bsn fsn kind st : Int) (bib fib x : Bool) (iv : Value) (hiv : iv.oneCell' = true) (hn : 0 ≤ bsn ∧ bsn ≤ 255) (hk : knowsB s.f s.ss.length bsn = true) (i : Nat) (hi : (bsn - s.f + 1) % 128 = i) :
    Calls Try.prog 43 #[.pointer (some ⟨b, 0, none⟩), .agg #[.int .u8 bsn, .int .u8 fsn, .bool bib, .bool fib, .int .u8 kind, .int .u8 st, .bool x, iv]] w fun e w' => e = .returned (.tuple #[.int .i64 i, .int .i64 0]) ∧ ∃ sv', BX w' b h m o sv' nv (ansB s bsn bib i) ∧ BF w w' b h sv nv sv' nv := by
  have hU := Blk.new w [.int .u8 bsn, .int .u8 fsn, .bool bib, .bool fib, .int .u8 kind, .int .u8 st, .bool x, iv] 69
  have hB1 : Below w.heap.size w (w.alloc (.cells [.int .u8 bsn, .int .u8 fsn, .bool bib, .bool fib, .int .u8 kind, .int .u8 st, .bool x, iv].toArray 69)) := (Below.refl _ _).alloc (Nat.le_refl _) _
  have k1 := k.below hB1
  have u0 := hU.cell 0 rfl
  have y0 := Blk.cell k1.bs 0 rfl
  have hkn := fun n => (k1.hx.drewN n).knows bsn hn
  rw [hk] at hkn
  have K1 := Lib.hid k1
  have HB := Lib.hid hB1
  have HU := Lib.hid hU
  have HK := Lib.hid hk
  have HI := Lib.hid hi
  clear k1 hB1 k hU hk hi
  go_enter Try.func43, Try.ntmps43
  go_upto_region 3 with fail
  generalize w.alloc (.cells [.int .u8 bsn, .int .u8 fsn, .bool bib, .bool fib, .int .u8 kind, .int .u8 st, .bool x, iv].toArray 69) = W at *
  go_quiet ((go_at_call 72; exact Calls.quiet_of (hkn _)))
  go_wp2_with fail
  have k2 := K1.out.drewN nq
  refine (see6 b h _ _ _ _ _ _ _ _ _ false _ k2.bs).mono ?_
  rintro e w1 ⟨rfl, hbs, hF⟩
  have hbx : BX w1 b h m o sv nv { s with q0 := s.q1, q1 := false } := ⟨hbs, k2.hx.fr hF (fun e => (k2.bs.apart k2.hx.blk (by decide)) e.symm) (fun q hq e => by obtain ⟨ds, hd⟩ := k2.hx.row33 hq; exact (hd.apart k2.bs (by decide)) e) (fun g cs hG e => (hG.apart k2.bs (by decide)) e), k2.inv, k2.lst⟩
  have hBF : BF w w1 b h sv nv sv nv := ((BF.of_below sv nv HB.out).drewN nq).trans (.of_b hF)
  have hU1 := (Blk.drewN HU.out nq).fr hF (fun e => (Blk.apart HU.out K1.out.bs (by decide)) e)
  have hfree := (hbx.hx.drewN 1).free_yes bsn hn HK.out i HI.out
  have KX := Lib.hid hbx
  have KF := Lib.hid hBF
  have u0' := Blk.cell hU1 0 rfl
  have y0' := Blk.cell hbs 0 rfl
  have KU := Lib.hid hU1
  have hbsX := Lib.hid hbs
  clear k2 hbx hBF hU1 hF hbs K1 HU HB hkn u0 y0
  go_upto_region 8 with fail
  go_cut [7, 8] (fun n e wx => n = .int .i64 i ∧ ∃ sv', HX wx h m o ((bsn + 1) % 128) sv' nv (s.ss.drop i) s.ns ∧ HF w1 wx h sv nv sv' nv)
  case first =>
    go_region_with (go_at_call 23; refine hfree.mono ?_; rintro e w2 ⟨rfl, sv', hx2, hF2⟩; have hF3 : HF w1 w2 h sv nv sv' nv := ⟨((Fr.refl _ w1).drewN 1).then_ hF2.fr, hF2.own⟩; clear hF2)
    all_goals go_wp2
    all_goals go_meet
    all_goals exact ⟨rfl, sv', hx2, hF3⟩
  case rest =>
    obtain ⟨rfl, sv', hx2, hF2⟩ := hcut
    have hbs2 : BS wc b h s.fib s.bib s.last s.asked s.ag s.q1 false s.i0 s.i1 := KX.out.far hF2
    have hU2 := KX.out.keep (.of_hf (b := b) hF2) KU.out (by decide) (by decide) (by decide)
    have hBF2 : BF w wc b h sv nv sv' nv := KF.out.trans (.of_hf hF2)
    have hinv : s.ag = -1 ∨ (0 ≤ s.ag ∧ s.ag < s.ss.length) := KX.out.inv
    have hlst : 0 ≤ s.last ∧ s.last ≤ 127 := KX.out.lst
    have hwin : s.ss.length ≤ 127 := KX.out.hx.win
    have hile : i ≤ 127 := by have := HI.out; omega
    have hlen : (s.ss.drop i).length ≤ 127 := by rw [List.length_drop]; omega
    clear hfree KX KF KU hbsX hF2 u0' y0' HK HI
    have HX2 := Lib.hid hx2
    have HF2 := Lib.hid hBF2
    have HU2 := Lib.hid hU2
    have y5 := Blk.cell hbs2 5 rfl
    have f5 := Blk.frozen hbs2 5
    have S2 := Lib.hid hbs2
    clear hx2 hBF2 hU2 hbs2
    have hbS : -1 ≤ s.ag ∧ s.ag ≤ 127 := by omega
    have hw1 : IntKind.i64.wrap (s.ag - (i : Int)) = s.ag - i := wrapH _ (by omega)
    go_upto_if 40 with fail
    go_cut [] (fun wx => BS wx b h s.fib s.bib s.last s.asked (if 0 ≤ s.ag then max 0 (s.ag - i) else s.ag) s.q1 false s.i0 s.i1 ∧ Fr (· = b) wc wx)
    case first =>
      by_cases h0 : 0 ≤ s.ag
      · go_wp2
        all_goals go_meet
        · rw [if_pos h0, show max 0 (s.ag - (i : Int)) = s.ag - i from by omega]
          exact ⟨Blk.set S2.out 5 _, Fr.set1 wc ⟨b, 5, none⟩ _⟩
        · rw [if_pos h0, show max 0 (s.ag - (i : Int)) = 0 from by omega]
          exact ⟨Blk.set S2.out 5 _, Fr.set1 wc ⟨b, 5, none⟩ _⟩
      · go_wp2
        go_meet
        rw [if_neg (by omega)]
        exact ⟨S2.out, Fr.refl _ _⟩
    case rest =>
      obtain ⟨hS3, hF3⟩ := hcut
      obtain ⟨A1, hA1⟩ : ∃ A1, (if 0 ≤ s.ag then max 0 (s.ag - (i : Int)) else s.ag) = A1 := ⟨_, rfl⟩
      rw [hA1] at hS3
      have hx3 := HX2.out.bfr S2.out hF3
      have hBF3 := HF2.out.trans (.of_b hF3)
      have hU3 := HU2.out.fr hF3 (fun e => (HU2.out.apart S2.out (by decide)) e)
      have hA1b : -1 ≤ A1 ∧ A1 ≤ 127 := by rw [← hA1]; split <;> omega
      have hag : agFree s.ag i (s.ss.drop i).length = if ((s.ss.drop i).length : Int) ≤ A1 then -1 else A1 := by unfold agFree; rw [hA1]
      have y0 := Blk.cell hS3 0 rfl
      have y5 := Blk.cell hS3 5 rfl
      have hsent := fun n => (hx3.drewN n).sent
      have HX3 := Lib.hid hx3
      have HF3 := Lib.hid hBF3
      have HU3 := Lib.hid hU3
      have S3 := Lib.hid hS3
      have HAG := Lib.hid hag
      clear hx3 hBF3 hU3 hS3 hA1 HX2 HF2 HU2 S2 hF3 f5 hag
      generalize hL : (s.ss.drop i).length = L at *
      go_upto_region 11 with fail
      go_quiet ((go_at_call 24; exact Calls.quiet_of_same (hsent _)))
      replace HX3 := Lib.hid (HX3.out.drewN nq)
      replace HF3 := Lib.hid (HF3.out.drewN nq)
      replace HU3 := Lib.hid (Blk.drewN HU3.out nq)
      replace S3 := Lib.hid (Blk.drewN S3.out nq)
      clear hsent y0 y5
      generalize wc.drewN nq = W4 at *
      have f5 := Blk.frozen S3.out 5
      have y5 := Blk.cell S3.out 5 rfl
      go_upto_if 60 with fail
      go_cut [] (fun wx => BS wx b h s.fib s.bib s.last s.asked (agFree s.ag i L) s.q1 false s.i0 s.i1 ∧ Fr (· = b) W4 wx)
      case first =>
        by_cases h0 : (L : Int) ≤ A1
        · go_wp2
          go_meet
          rw [HAG.out, if_pos h0]
          exact ⟨Blk.set S3.out 5 _, Fr.set1 W4 ⟨b, 5, none⟩ _⟩
        · go_wp2
          go_meet
          rw [HAG.out, if_neg (by omega)]
          exact ⟨S3.out, Fr.refl _ _⟩
      case rest =>
        obtain ⟨hS5, hF5⟩ := hcut
        obtain ⟨A2, hA2⟩ : ∃ A2, agFree s.ag i L = A2 := ⟨_, rfl⟩
        have hA2i : A2 = -1 ∨ (0 ≤ A2 ∧ A2 < L) := by
          rw [← hA2, HAG.out]
          split
          · exact .inl rfl
          · omega
        rw [hA2] at hS5
        have hx5 := HX3.out.bfr S3.out hF5
        have hBF5 := HF3.out.trans (.of_b hF5)
        have hU5 := HU3.out.fr hF5 (fun e => (HU3.out.apart S3.out (by decide)) e)
        have y0 := Blk.cell hS5 0 rfl
        have y1 := Blk.cell hS5 1 rfl
        have y5 := Blk.cell hS5 5 rfl
        have g1 := Blk.frozen hS5 1
        have g5 := Blk.frozen hS5 5
        have u2 := hU5.cell 2 rfl
        have hfr : ∀ n, HX (wc.drewN n) h m o ((bsn + 1) % 128) sv' nv (s.ss.drop i) s.ns ∧ BF w (wc.drewN n) b h sv nv sv' nv ∧ BS (wc.drewN n) b h s.fib s.bib s.last s.asked A2 s.q1 false s.i0 s.i1 := fun n => ⟨hx5.drewN n, hBF5.drewN n, Blk.drewN hS5 n⟩
        have HFR := Lib.hid hfr
        clear hx5 hBF5 hU5 hS5 hF5 hfr
        by_cases hbf : bib = s.fib
        · have hans : ansB s bsn bib i = { s with q0 := s.q1, q1 := false, f := (bsn + 1) % 128, ss := s.ss.drop i, ag := A2 } := by
            unfold ansB; rw [if_pos hbf, hL, hA2, hbf]
          have HANS := Lib.hid hans
          rw [← hbf] at y1
          clear hans hbf
          cases bib
          all_goals
            go_upto_region 13 with fail
            go_quiet (fail)
            go_wp2
            refine bodyPost_ret (v := .tuple #[.int .i64 i, .int .i64 0]) (by simp [results, Try.results43, go_sem]) rfl ?_
            obtain ⟨r1, r2, r3⟩ := HFR.out nq
            rw [HANS.out]
            exact ⟨rfl, sv', ⟨r3, r1, by show A2 = -1 ∨ 0 ≤ A2 ∧ A2 < ((s.ss.drop i).length : Int); rw [hL]; exact hA2i, hlst⟩, r2⟩
        · have hans : ansB s bsn bib i = { s with q0 := s.q1, q1 := false, f := (bsn + 1) % 128, ss := s.ss.drop i, fib := bib, ag := if 0 < L then 0 else -1 } := by
            unfold ansB; rw [if_neg hbf, hL]
          have HANS := Lib.hid hans
          have hbf2 : s.fib = !bib := by cases bib <;> cases h : s.fib <;> simp_all
          rw [hbf2] at y1
          clear hans hbf hbf2
          have hW : ∀ n, ∀ W : World, W = ((wc.drewN n).setCell ⟨b, 1, none⟩ (.bool bib)).setCell ⟨b, 5, none⟩ (.int .i64 (-1)) → BS W b h bib s.bib s.last s.asked (-1) s.q1 false s.i0 s.i1 ∧ Fr (· = b) (wc.drewN n) W := by
            rintro n W rfl
            exact ⟨Blk.set (Blk.set (HFR.out n).2.2 1 _) 5 _, Fr.setCell (S := fun q => q = b) (p := ⟨b, 5, none⟩) (Fr.set1 (wc.drewN n) ⟨b, 1, none⟩ _) (.inl rfl) _⟩
          have HW := Lib.hid hW
          clear hW
          cases bib
          all_goals
            go_upto_region 13 with fail
            go_quiet (fail)
            go_upto_region 15 with fail
            obtain ⟨hS6, hF6⟩ := HW.out nq _ rfl
            have hx6 := (HFR.out nq).1.bfr (HFR.out nq).2.2 hF6
            have hBF6 := (HFR.out nq).2.1.trans (.of_b hF6)
            have hsent := hx6.sent
            clear y0 y1 y5 g1 g5 u2
            generalize ((wc.drewN nq).setCell ⟨b, 1, none⟩ (.bool _)).setCell ⟨b, 5, none⟩ (.int .i64 (-1)) = W6 at *
            rw [hL] at hsent
            have z0 := Blk.cell hS6 0 rfl
            have z5 := Blk.cell hS6 5 rfl
            have g5 := Blk.frozen hS6 5
            have hx7 := hx6.set hS6 (by decide) (by decide) (by decide) 5 (.int .i64 0)
            have HX6 := Lib.hid hx6
            have HX7 := Lib.hid hx7
            have HF6 := Lib.hid hBF6
            have S6 := Lib.hid hS6
            clear hx6 hx7 hBF6 hS6 hF6
            by_cases hl0 : 0 < L
            · have hl1 : (0 : Int) < (L : Int) := by omega
              go_wp2_with (go_at_call 24; refine hsent.mono ?_; rintro e w9 ⟨rfl, rfl⟩)
              refine bodyPost_ret (v := .tuple #[.int .i64 i, .int .i64 0]) (by simp [results, Try.results43, go_sem]) rfl ?_
              refine ⟨rfl, sv', ?_, ⟨HF6.out.fr.setCell (.inl (.inl rfl)) _, HF6.out.own⟩⟩
              rw [HANS.out, if_pos hl0]
              exact ⟨Blk.set S6.out 5 _, HX7.out, .inr ⟨Int.le_refl _, by show (0 : Int) < ((s.ss.drop i).length : Int); rw [hL]; exact hl1⟩, hlst⟩
            · have hl1 : ¬ ((0 : Int) < (L : Int)) := by omega
              go_wp2_with (go_at_call 24; refine hsent.mono ?_; rintro e w9 ⟨rfl, rfl⟩)
              refine bodyPost_ret (v := .tuple #[.int .i64 i, .int .i64 0]) (by simp [results, Try.results43, go_sem]) rfl ?_
              refine ⟨rfl, sv', ?_, HF6.out⟩
              rw [HANS.out, if_neg hl0]
              exact ⟨S6.out, HX6.out, .inl rfl, hlst⟩
end Go.Proofs.Ytadheikcgdhcdaa
