/-
  The contract of align's Unit; a nil align; a new one; the align's example.
-/
import Derived.Test.YtpalpoecakijnaaAlign3
import Derived.Test.YtpalpoecakijnaaJamLaws
namespace Go.Proofs.Ytpalpoecakijnaa
open Go.RowKit
set_option linter.unusedVariables false
set_option linter.unusedSimpArgs false

set_option maxHeartbeats 1000000 in
theorem aunit_any (j c : Nat) (S : List Value) (T : List Int) (s : AS) (wrong : Bool) (w : World) (h : AC w j c S T s) (h1 : 0 ≤ s.pn ∧ s.pn ≤ 1000000) (h2 : 0 ≤ s.pt ∧ s.pt ≤ 1000000) :
    Calls Try.prog 38 #[.pointer (some ⟨j, 0, none⟩), .bool wrong] w fun e w' => e = .returned (.int .u8 (aUnitWhy wrong s)) ∧ AC w' j c S T (aUnit T wrong s) ∧ Fr (two j c) w w' := by
  obtain ⟨q, hq⟩ : ∃ q, aUnit T wrong s = q := ⟨_, rfl⟩
  obtain ⟨y, hy⟩ : ∃ y, aUnitWhy wrong s = y := ⟨_, rfl⟩
  rw [hq, hy]
  unfold aUnit at hq
  unfold aUnitWhy at hy
  have h14 := h.st
  have h17 := h.ph
  have h18 := h.pn
  have h19 := h.pt
  have hf := h.frozen
  obtain ⟨st, own, their, ph, pn, pt, l⟩ := s
  simp only at hq hy h14 h17 h18 h19 h1 h2
  by_cases h3 : st = 3
  · subst h3
    obtain ⟨u, hu⟩ : ∃ u, pAnew ph pn wrong = u := ⟨_, rfl⟩
    rw [hu] at hq hy
    simp only [if_true, true_and] at hq hy
    go_enter Try.func38, Try.ntmps38
    go_wp2_with fail
    refine (punit_any ph pn pt wrong _ h1 h2).mono ?_
    rintro e w1 ⟨rfl, hb⟩
    rw [hu]
    have hA := h.fr (Fr.of_below (S := fun _ => False) hb) (fun h => h) (fun h => h)
    have hF := Fr.of_below (S := two j c) hb
    clear h14 h17 h18 h19 hf hb h
    have hf := hA.frozen
    have h17 := hA.ph
    have h18 := hA.pn
    have h19 := hA.pt
    have hlt := hA.blk.lt
    have hne : ¬ w1.heap.size = j := by omega
    cases u
    · simp at hq hy
      subst hq hy
      have hD := (((hA.setPh ph).setPn (pN pn wrong)).setPt pt).alloc (.cells #[.bool ph, .int .i64 (pN pn wrong), .int .i64 pt] 53)
      have hG := (((hF.setJ 17 (.bool ph)).setJ 18 (.int .i64 (pN pn wrong))).setJ 19 (.int .i64 pt)).alloc (.cells #[.bool ph, .int .i64 (pN pn wrong), .int .i64 pt] 53)
      go_wp2
      go_ret
      exact ⟨rfl, hD, hG⟩
    · have hD := (((hA.setPh ph).setPn 0).setPt (pt + 1)).alloc (.cells #[.bool ph, .int .i64 0, .int .i64 (pt + 1)] 53)
      have hG := (((hF.setJ 17 (.bool ph)).setJ 18 (.int .i64 0)).setJ 19 (.int .i64 (pt + 1))).alloc (.cells #[.bool ph, .int .i64 0, .int .i64 (pt + 1)] 53)
      by_cases h5 : 5 ≤ pt + 1
      · have h5' : decide (5 ≤ pt + 1) = true := by simp [h5]
        simp [h5] at hq hy
        subst hq hy
        go_wp2
        go_ret
        exact ⟨rfl, hD, hG⟩
      · have h5' : decide (5 ≤ pt + 1) = false := by simp; omega
        simp [h5] at hq hy
        subst hq hy
        go_wp2_with fail
        refine (aprove_any j c S T _ _ hD).mono ?_
        rintro e w3 ⟨rfl, h3, hF3⟩
        go_wp2
        go_ret
        exact ⟨rfl, h3, hG.then_ hF3⟩
  · have e3 : (st == 3) = false := by simp [h3]
    simp [h3] at hq hy
    subst hq hy
    clear h3
    go_enter Try.func38, Try.ntmps38
    go_wp2
    go_ret
    exact ⟨rfl, h, Fr.refl _ _⟩

theorem abegin_nil (w : World) : Calls Try.prog 32 #[.pointer none] w fun e w' => e = .returned (.tuple #[]) ∧ w = w' := by
  go_enter Try.func32, Try.ntmps32
  go_wp2
  exact bodyPost_ret (results_none rfl _ _ _) rfl ⟨rfl, rfl⟩
theorem aend_nil (w : World) : Calls Try.prog 42 #[.pointer none] w fun e w' => e = .returned (.tuple #[]) ∧ w = w' := by
  go_enter Try.func42, Try.ntmps42
  go_wp2
  go_end0
  exact ⟨rfl, rfl⟩
theorem ahurryon_nil (b : Bool) (w : World) : Calls Try.prog 37 #[.pointer none, .bool b] w fun e w' => e = .returned (.tuple #[]) ∧ w = w' := by
  go_enter Try.func37, Try.ntmps37
  go_wp2
  exact bodyPost_ret (results_none rfl _ _ _) rfl ⟨rfl, rfl⟩
theorem aout_nil (t : Int) (w : World) : Calls Try.prog 41 #[.pointer none, .int .i64 t] w fun e w' => e = .returned (.tuple #[.bool false, .int .u8 0]) ∧ w = w' := by
  go_enter Try.func41, Try.ntmps41
  go_wp2
  go_ret2
  exact ⟨rfl, rfl⟩
theorem aheard_nil (t : Int) (w : World) : Calls Try.prog 33 #[.pointer none, .int .u8 t] w fun e w' => e = .returned (.int .u8 0) ∧ w = w' := by
  go_enter Try.func33, Try.ntmps33
  go_wp2
  go_ret
  exact ⟨rfl, rfl⟩
theorem aunit_nil (b : Bool) (w : World) : Calls Try.prog 38 #[.pointer none, .bool b] w fun e w' => e = .returned (.int .u8 0) ∧ w = w' := by
  go_enter Try.func38, Try.ntmps38
  go_wp2
  go_ret
  exact ⟨rfl, rfl⟩
theorem asends_nil (w : World) : Calls Try.prog 40 #[.pointer none] w fun e w' => e = .returned (.int .u8 3) ∧ w = w' := by
  go_enter Try.func40, Try.ntmps40
  go_wp2
  go_ret
  exact ⟨rfl, rfl⟩
theorem atries_nil (w : World) : Calls Try.prog 39 #[.pointer none] w fun e w' => e = .returned (.int .i64 0) ∧ w = w' := by
  go_enter Try.func39, Try.ntmps39
  go_wp2
  go_ret
  exact ⟨rfl, rfl⟩

theorem anew_any (cy : Bool) (n1 n2 ho oc : Int) (t0 t1 t2 t3 t4 t5 t6 t7 : Int) (c : Nat) (l : List Int) (w : World) (hC : Ck w c l) :
    Calls Try.prog 31 #[.agg #[.bool cy, .int .i64 n1, .int .i64 n2, .int .i64 ho, .int .i64 oc, .int .i64 t0, .int .i64 t1, .int .i64 t2, .int .i64 t3, .int .i64 t4, .int .i64 t5, .int .i64 t6, .int .i64 t7], .pointer (some ⟨c, 0, none⟩)] w
      fun e w' => ∃ j, e = .returned (.pointer (some ⟨j, 0, none⟩)) ∧ w.heap.size ≤ j ∧ AC w' j c [.bool cy, .int .i64 n1, .int .i64 n2, .int .i64 ho, .int .i64 oc] [t0, t1, t2, t3, t4, t5, t6, t7] ⟨0, false, false, false, 0, 0, l⟩ ∧ Below w.heap.size w w' := by
  have hlt := hC.lt
  go_enter Try.func31, Try.ntmps31
  go_wp2
  go_ret
  have hb := Blk.new (w.alloc (.cells #[.bool cy, .int .i64 n1, .int .i64 n2, .int .i64 ho, .int .i64 oc, .int .i64 t0, .int .i64 t1, .int .i64 t2, .int .i64 t3, .int .i64 t4, .int .i64 t5, .int .i64 t6, .int .i64 t7] 34)) [.bool cy, .int .i64 n1, .int .i64 n2, .int .i64 ho, .int .i64 oc, .int .i64 t0, .int .i64 t1, .int .i64 t2, .int .i64 t3, .int .i64 t4, .int .i64 t5, .int .i64 t6, .int .i64 t7, .pointer (some ⟨c, 0, none⟩), .int .u8 0, .bool false, .bool false, .bool false, .int .i64 0, .int .i64 0] 55
  rw [World.size_alloc] at hb
  exact ⟨_, rfl, by omega, ⟨hb, rfl, rfl, (hC.alloc _).alloc _, by omega⟩, ((Below.refl _ _).alloc (Nat.le_refl _) _).alloc (by simp) _⟩

abbrev zl : List Int := [0, 0, 0, 0, 0, 0, 0, 0]
abbrev uS : List Value := [.bool false, .int .i64 8, .int .i64 300, .int .i64 16, .int .i64 600]
abbrev uT : List Int := [600, 12000, 8000, 4000, 1200, 100, 4000, 6000]

theorem awake14_any (w : World) : Calls Try.prog 30 #[] w fun e w' => e = .returned (.bool true) ∧ Below w.heap.size w w' := by
  go_enter Try.func30, Try.ntmps30
  go_wp2_with fail
  refine (usual_any _ _).mono ?_
  rintro e w1 ⟨rfl, hB⟩
  have hs1 := hB.size
  have hC := Ck.new w1
  go_wp2_with fail
  replace hB := hB.alloc hs1 (.cells #[.int .i64 0, .int .i64 0, .int .i64 0, .int .i64 0, .int .i64 0, .int .i64 0, .int .i64 0, .int .i64 0] 25)
  refine (anew_any _ _ _ _ _ _ _ _ _ _ _ _ _ _ _ _ hC).mono ?_
  rintro e w2 ⟨j, rfl, hj, hJ, hb⟩
  simp only [World.size_alloc] at hj hb
  replace hB := hB.trans (hb.mono (by omega))
  clear hC hb
  go_wp2_with fail
  refine (abegin_any j _ _ _ _ _ hJ).mono ?_
  rintro e w3 ⟨rfl, hJ3, hF⟩
  replace hB := hB.trans (hF.two_below (by omega) hs1 hB.size)
  clear hJ hF
  go_wp2_with fail
  refine (aheard_any j _ _ _ _ _ _ hJ3 (by decide) (by decide)).mono ?_
  rintro e w4 ⟨rfl, hJ4, hF⟩
  replace hB := hB.trans (hF.two_below (by omega) hs1 hB.size)
  clear hJ3 hF
  go_wp2_with fail
  refine (aheard_any j _ _ _ _ _ _ hJ4 (by decide) (by decide)).mono ?_
  rintro e w5 ⟨rfl, hJ5, hF⟩
  replace hB := hB.trans (hF.two_below (by omega) hs1 hB.size)
  clear hJ4 hF
  have h14 : w5.cell? ⟨j, 14, none⟩ = some (.int .u8 3) := hJ5.st
  go_wp2
  go_ret
  exact ⟨rfl, hB⟩

theorem alignNil_row (st : Int) (b : Bool) (t : Int) (w : World) : Calls Try.prog 13 #[.int .u8 st, .bool b, .int .i64 t] w fun e w' => e = .returned (.bool true) ∧ Below w.heap.size w w' := by
  go_enter Try.func13, Try.ntmps13
  go_wp2_with (first | (go_at_call 32; refine (abegin_nil _).mono ?_; rintro e w' ⟨rfl, rfl⟩) | (go_at_call 42; refine (aend_nil _).mono ?_; rintro e w' ⟨rfl, rfl⟩) | (go_at_call 37; refine (ahurryon_nil _ _).mono ?_; rintro e w' ⟨rfl, rfl⟩) | (go_at_call 30; refine (awake14_any _).mono ?_; rintro e w' ⟨rfl, hB⟩) | (go_at_call 41; refine (aout_nil _ _).mono ?_; rintro e w' ⟨rfl, rfl⟩) | (go_at_call 33; refine (aheard_nil _ _).mono ?_; rintro e w' ⟨rfl, rfl⟩) | (go_at_call 38; refine (aunit_nil _ _).mono ?_; rintro e w' ⟨rfl, rfl⟩) | (go_at_call 40; refine (asends_nil _).mono ?_; rintro e w' ⟨rfl, rfl⟩) | (go_at_call 39; refine (atries_nil _).mono ?_; rintro e w' ⟨rfl, rfl⟩))
  go_ret
  exact ⟨rfl, by assumption⟩
end Go.Proofs.Ytpalpoecakijnaa
