/-
  A nil jam; a new one; the jam's example; the laws JamNil, JamTells, JamBound.
-/
import Derived.Test.YtpalpoecakijnaaJam
namespace Go.Proofs.Ytpalpoecakijnaa
open Go.RowKit
set_option linter.unusedVariables false
set_option linter.unusedSimpArgs false

theorem jbegin_nil (w : World) : Calls Try.prog 23 #[.pointer none] w fun e w' => e = .returned (.tuple #[]) ∧ w = w' := by
  go_enter Try.func23, Try.ntmps23
  go_wp2
  go_end0
  exact ⟨rfl, rfl⟩
theorem jend_nil (w : World) : Calls Try.prog 34 #[.pointer none] w fun e w' => e = .returned (.tuple #[]) ∧ w = w' := by
  go_enter Try.func34, Try.ntmps34
  go_wp2
  go_end0
  exact ⟨rfl, rfl⟩
theorem jclear_nil (w : World) : Calls Try.prog 35 #[.pointer none] w fun e w' => e = .returned (.tuple #[]) ∧ w = w' := by
  go_enter Try.func35, Try.ntmps35
  go_wp2
  go_end0
  exact ⟨rfl, rfl⟩
theorem jdue_nil (w : World) : Calls Try.prog 24 #[.pointer none] w fun e w' => e = .returned (.bool false) ∧ w = w' := by
  go_enter Try.func24, Try.ntmps24
  go_wp2
  go_ret
  exact ⟨rfl, rfl⟩
theorem jheard_nil (b : Bool) (w : World) : Calls Try.prog 29 #[.pointer none, .bool b] w fun e w' => e = .returned (.bool false) ∧ w = w' := by
  go_enter Try.func29, Try.ntmps29
  go_wp2
  go_ret
  exact ⟨rfl, rfl⟩
theorem janswer_nil (w : World) : Calls Try.prog 36 #[.pointer none] w fun e w' => e = .returned (.bool false) ∧ w = w' := by
  go_enter Try.func36, Try.ntmps36
  go_wp2
  go_ret
  exact ⟨rfl, rfl⟩
theorem jout_nil (t : Int) (w : World) : Calls Try.prog 26 #[.pointer none, .int .i64 t] w fun e w' => e = .returned (.int .u8 0) ∧ w = w' := by
  go_enter Try.func26, Try.ntmps26
  go_wp2
  go_ret
  exact ⟨rfl, rfl⟩

theorem usual_any (c : Bool) (w : World) : Calls Try.prog 21 #[.bool c] w fun e w' => e = .returned (.agg #[.bool c, .int .i64 8, .int .i64 300, .int .i64 16, .int .i64 600, .int .i64 600, .int .i64 12000, .int .i64 8000, .int .i64 4000, .int .i64 1200, .int .i64 100, .int .i64 4000, .int .i64 6000]) ∧ Below w.heap.size w w' := by
  go_enter Try.func21, Try.ntmps21
  go_wp2
  refine bodyPost_ret (v := .agg #[.bool c, .int .i64 8, .int .i64 300, .int .i64 16, .int .i64 600, .int .i64 600, .int .i64 12000, .int .i64 8000, .int .i64 4000, .int .i64 1200, .int .i64 100, .int .i64 4000, .int .i64 6000]) ?_ rfl ?_
  · simp [results, Try.results21, go_sem]
  · exact ⟨rfl, (Below.refl _ _).alloc (Nat.le_refl _) _⟩

/-- A setup's values: the first five, the timers'. -/
theorem jnew_any (cy : Bool) (n1 n2 ho oc : Int) (t0 t1 t2 t3 t4 t5 t6 t7 : Int) (c : Nat) (l : List Int) (w : World) (hC : Ck w c l) :
    Calls Try.prog 22 #[.agg #[.bool cy, .int .i64 n1, .int .i64 n2, .int .i64 ho, .int .i64 oc, .int .i64 t0, .int .i64 t1, .int .i64 t2, .int .i64 t3, .int .i64 t4, .int .i64 t5, .int .i64 t6, .int .i64 t7], .pointer (some ⟨c, 0, none⟩)] w
      fun e w' => ∃ j, e = .returned (.pointer (some ⟨j, 0, none⟩)) ∧ w.heap.size ≤ j ∧ JC w' j c [.bool cy, .int .i64 n1, .int .i64 n2, .int .i64 ho, .int .i64 oc] [t0, t1, t2, t3, t4, t5, t6, t7] ⟨false, false, false, l⟩ ∧ Below w.heap.size w w' := by
  have hlt := hC.lt
  go_enter Try.func22, Try.ntmps22
  go_wp2
  go_ret
  have hb := Blk.new (w.alloc (.cells #[.bool cy, .int .i64 n1, .int .i64 n2, .int .i64 ho, .int .i64 oc, .int .i64 t0, .int .i64 t1, .int .i64 t2, .int .i64 t3, .int .i64 t4, .int .i64 t5, .int .i64 t6, .int .i64 t7] 34)) [.bool cy, .int .i64 n1, .int .i64 n2, .int .i64 ho, .int .i64 oc, .int .i64 t0, .int .i64 t1, .int .i64 t2, .int .i64 t3, .int .i64 t4, .int .i64 t5, .int .i64 t6, .int .i64 t7, .pointer (some ⟨c, 0, none⟩), .bool false, .bool false, .bool false] 62
  rw [World.size_alloc] at hb
  exact ⟨_, rfl, by omega, ⟨hb, rfl, rfl, (hC.alloc _).alloc _, by omega⟩, ((Below.refl _ _).alloc (Nat.le_refl _) _).alloc (by simp) _⟩

theorem Fr.two_below {j c B : Nat} {w w' : World} (h : Fr (two j c) w w') (hj : B ≤ j) (hc : B ≤ c) (hs : B ≤ w.heap.size) : Below B w w' := h.below hs (fun k hk => by rcases hk with hk | hk <;> omega)

/-- Begin twice over: a jam just begun. -/
theorem awake16_any (w : World) : Calls Try.prog 20 #[] w fun e w' => e = .returned (.bool true) ∧ Below w.heap.size w w' := by
  go_enter Try.func20, Try.ntmps20
  go_wp2_with fail
  refine (usual_any _ _).mono ?_
  rintro e w1 ⟨rfl, hB⟩
  have hs1 := hB.size
  have hC := Ck.new w1
  go_wp2_with fail
  replace hB := hB.alloc hs1 (.cells #[.int .i64 0, .int .i64 0, .int .i64 0, .int .i64 0, .int .i64 0, .int .i64 0, .int .i64 0, .int .i64 0] 25)
  refine (jnew_any _ _ _ _ _ _ _ _ _ _ _ _ _ _ _ _ hC).mono ?_
  rintro e w2 ⟨j, rfl, hj, hJ, hb⟩
  simp only [World.size_alloc] at hj hb
  replace hB := hB.trans (hb.mono (by omega))
  clear hC hb
  go_wp2_with fail
  refine (jbegin_any j _ _ _ _ _ hJ).mono ?_
  rintro e w3 ⟨rfl, hJ3, hF⟩
  replace hB := hB.trans (hF.two_below (by omega) hs1 hB.size)
  clear hJ hF
  go_wp2_with fail
  refine (jdue_any j _ _ _ _ _ hJ3).mono ?_
  rintro e w4 ⟨rfl, hJ4, hF⟩
  replace hB := hB.trans (hF.two_below (by omega) hs1 hB.size)
  clear hJ3 hF
  simp only [jBegin, Bool.false_eq_true, if_false]
  go_wp2_with fail
  refine (jdue_any j _ _ _ _ _ hJ4).mono ?_
  rintro e w5 ⟨rfl, hJ5, hF⟩
  replace hB := hB.trans (hF.two_below (by omega) hs1 hB.size)
  clear hJ4 hF
  have ho := hJ5.own
  simp only [jDue, jBegin, Bool.false_eq_true, if_false] at ho ⊢
  go_wp2
  go_ret
  exact ⟨rfl, hB⟩

theorem jamNil_row (b : Bool) (t : Int) (w : World) : Calls Try.prog 9 #[.bool b, .int .i64 t] w fun e w' => e = .returned (.bool true) ∧ Below w.heap.size w w' := by
  go_enter Try.func9, Try.ntmps9
  go_wp2_with (first | (go_at_call 23; refine (jbegin_nil _).mono ?_; rintro e w' ⟨rfl, rfl⟩) | (go_at_call 34; refine (jend_nil _).mono ?_; rintro e w' ⟨rfl, rfl⟩) | (go_at_call 35; refine (jclear_nil _).mono ?_; rintro e w' ⟨rfl, rfl⟩) | (go_at_call 20; refine (awake16_any _).mono ?_; rintro e w' ⟨rfl, hB⟩) | (go_at_call 24; refine (jdue_nil _).mono ?_; rintro e w' ⟨rfl, rfl⟩) | (go_at_call 29; refine (jheard_nil _ _).mono ?_; rintro e w' ⟨rfl, rfl⟩) | (go_at_call 36; refine (janswer_nil _).mono ?_; rintro e w' ⟨rfl, rfl⟩) | (go_at_call 26; refine (jout_nil _ _).mono ?_; rintro e w' ⟨rfl, rfl⟩))
  go_ret
  exact ⟨rfl, by assumption⟩
end Go.Proofs.Ytpalpoecakijnaa
