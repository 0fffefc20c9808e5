/-
  The contract of align's Heard, case by case; of Hurry and of Unit.
-/
import Derived.Test.YtpalpoecakijnaaAlign2
namespace Go.Proofs.Ytpalpoecakijnaa
open Go.RowKit
set_option linter.unusedVariables false
set_option linter.unusedSimpArgs false

theorem aheard_0_0 (j c : Nat) (S : List Value) (T : List Int) (own their : Bool) (ph : Bool) (pn pt : Int) (l : List Int) (w : World) (h : AC w j c S T ⟨0, own, their, ph, pn, pt, l⟩) :
    Calls Try.prog 33 #[.pointer (some ⟨j, 0, none⟩), .int .u8 0] w fun e w' => e = .returned (.int .u8 (aHeardWhy 0 ⟨0, own, their, ph, pn, pt, l⟩)) ∧ AC w' j c S T (aHeard T 0 ⟨0, own, their, ph, pn, pt, l⟩) ∧ Fr (two j c) w w' := by
  have h14 := h.st
  have h16 := h.their
  have hf := h.frozen
  go_enter Try.func33, Try.ntmps33
  go_wp2
  go_ret
  exact ⟨rfl, h, Fr.refl _ _⟩

theorem aheard_0_1 (j c : Nat) (S : List Value) (T : List Int) (own their : Bool) (ph : Bool) (pn pt : Int) (l : List Int) (w : World) (h : AC w j c S T ⟨0, own, their, ph, pn, pt, l⟩) :
    Calls Try.prog 33 #[.pointer (some ⟨j, 0, none⟩), .int .u8 1] w fun e w' => e = .returned (.int .u8 (aHeardWhy 1 ⟨0, own, their, ph, pn, pt, l⟩)) ∧ AC w' j c S T (aHeard T 1 ⟨0, own, their, ph, pn, pt, l⟩) ∧ Fr (two j c) w w' := by
  have h14 := h.st
  have h16 := h.their
  have hf := h.frozen
  go_enter Try.func33, Try.ntmps33
  go_wp2
  go_ret
  exact ⟨rfl, h, Fr.refl _ _⟩

theorem aheard_0_2 (j c : Nat) (S : List Value) (T : List Int) (own their : Bool) (ph : Bool) (pn pt : Int) (l : List Int) (w : World) (h : AC w j c S T ⟨0, own, their, ph, pn, pt, l⟩) :
    Calls Try.prog 33 #[.pointer (some ⟨j, 0, none⟩), .int .u8 2] w fun e w' => e = .returned (.int .u8 (aHeardWhy 2 ⟨0, own, their, ph, pn, pt, l⟩)) ∧ AC w' j c S T (aHeard T 2 ⟨0, own, their, ph, pn, pt, l⟩) ∧ Fr (two j c) w w' := by
  have h14 := h.st
  have h16 := h.their
  have hf := h.frozen
  go_enter Try.func33, Try.ntmps33
  go_wp2
  go_ret
  exact ⟨rfl, h, Fr.refl _ _⟩

theorem aheard_0_3 (j c : Nat) (S : List Value) (T : List Int) (own their : Bool) (ph : Bool) (pn pt : Int) (l : List Int) (w : World) (h : AC w j c S T ⟨0, own, their, ph, pn, pt, l⟩) :
    Calls Try.prog 33 #[.pointer (some ⟨j, 0, none⟩), .int .u8 3] w fun e w' => e = .returned (.int .u8 (aHeardWhy 3 ⟨0, own, their, ph, pn, pt, l⟩)) ∧ AC w' j c S T (aHeard T 3 ⟨0, own, their, ph, pn, pt, l⟩) ∧ Fr (two j c) w w' := by
  have h14 := h.st
  have h16 := h.their
  have hf := h.frozen
  go_enter Try.func33, Try.ntmps33
  go_wp2
  go_ret
  exact ⟨rfl, h, Fr.refl _ _⟩

theorem aheard_1_0 (j c : Nat) (S : List Value) (T : List Int) (own their : Bool) (ph : Bool) (pn pt : Int) (l : List Int) (w : World) (h : AC w j c S T ⟨1, own, their, ph, pn, pt, l⟩) :
    Calls Try.prog 33 #[.pointer (some ⟨j, 0, none⟩), .int .u8 0] w fun e w' => e = .returned (.int .u8 (aHeardWhy 0 ⟨1, own, their, ph, pn, pt, l⟩)) ∧ AC w' j c S T (aHeard T 0 ⟨1, own, their, ph, pn, pt, l⟩) ∧ Fr (two j c) w w' := by
  have h14 := h.st
  have h16 := h.their
  have hf := h.frozen
  go_enter Try.func33, Try.ntmps33
  go_wp2_with fail
  refine (ahurry_any j c S T _ _ h).mono ?_
  rintro e w' ⟨rfl, rfl⟩
  go_wp2_with fail
  refine (anear_any j c S T _ _ h).mono ?_
  rintro e w3 ⟨rfl, h3, hF3⟩
  go_wp2
  go_ret
  exact ⟨rfl, h3, (Fr.refl (two j c) w).then_ hF3⟩

theorem aheard_1_1 (j c : Nat) (S : List Value) (T : List Int) (own their : Bool) (ph : Bool) (pn pt : Int) (l : List Int) (w : World) (h : AC w j c S T ⟨1, own, their, ph, pn, pt, l⟩) :
    Calls Try.prog 33 #[.pointer (some ⟨j, 0, none⟩), .int .u8 1] w fun e w' => e = .returned (.int .u8 (aHeardWhy 1 ⟨1, own, their, ph, pn, pt, l⟩)) ∧ AC w' j c S T (aHeard T 1 ⟨1, own, their, ph, pn, pt, l⟩) ∧ Fr (two j c) w w' := by
  have h14 := h.st
  have h16 := h.their
  have hf := h.frozen
  go_enter Try.func33, Try.ntmps33
  go_wp2_with fail
  refine (ahurry_any j c S T _ _ h).mono ?_
  rintro e w' ⟨rfl, rfl⟩
  go_wp2_with fail
  refine (anear_any j c S T _ _ h).mono ?_
  rintro e w3 ⟨rfl, h3, hF3⟩
  go_wp2
  go_ret
  exact ⟨rfl, h3, (Fr.refl (two j c) w).then_ hF3⟩

theorem aheard_1_2 (j c : Nat) (S : List Value) (T : List Int) (own their : Bool) (ph : Bool) (pn pt : Int) (l : List Int) (w : World) (h : AC w j c S T ⟨1, own, their, ph, pn, pt, l⟩) :
    Calls Try.prog 33 #[.pointer (some ⟨j, 0, none⟩), .int .u8 2] w fun e w' => e = .returned (.int .u8 (aHeardWhy 2 ⟨1, own, their, ph, pn, pt, l⟩)) ∧ AC w' j c S T (aHeard T 2 ⟨1, own, their, ph, pn, pt, l⟩) ∧ Fr (two j c) w w' := by
  have h14 := h.st
  have h16 := h.their
  have hf := h.frozen
  go_enter Try.func33, Try.ntmps33
  go_wp2_with fail
  refine (ahurry_any j c S T _ _ h).mono ?_
  rintro e w' ⟨rfl, rfl⟩
  have h2 := h.setTheir true
  have hF2 := (Fr.refl (two j c) w).setJ 16 (.bool true)
  have h14 := h2.st
  have hf2 := h2.frozen
  go_wp2_with fail
  refine (anear_any j c S T _ _ h2).mono ?_
  rintro e w3 ⟨rfl, h3, hF3⟩
  go_wp2
  go_ret
  exact ⟨rfl, h3, hF2.then_ hF3⟩

theorem aheard_1_3 (j c : Nat) (S : List Value) (T : List Int) (own their : Bool) (ph : Bool) (pn pt : Int) (l : List Int) (w : World) (h : AC w j c S T ⟨1, own, their, ph, pn, pt, l⟩) :
    Calls Try.prog 33 #[.pointer (some ⟨j, 0, none⟩), .int .u8 3] w fun e w' => e = .returned (.int .u8 (aHeardWhy 3 ⟨1, own, their, ph, pn, pt, l⟩)) ∧ AC w' j c S T (aHeard T 3 ⟨1, own, their, ph, pn, pt, l⟩) ∧ Fr (two j c) w w' := by
  have h14 := h.st
  have h16 := h.their
  have hf := h.frozen
  go_enter Try.func33, Try.ntmps33
  go_wp2_with fail
  refine (ahurry_any j c S T _ _ h).mono ?_
  rintro e w' ⟨rfl, rfl⟩
  go_wp2
  go_ret
  exact ⟨rfl, h, (Fr.refl (two j c) w)⟩

theorem aheard_2_0 (j c : Nat) (S : List Value) (T : List Int) (own their : Bool) (ph : Bool) (pn pt : Int) (l : List Int) (w : World) (h : AC w j c S T ⟨2, own, their, ph, pn, pt, l⟩) :
    Calls Try.prog 33 #[.pointer (some ⟨j, 0, none⟩), .int .u8 0] w fun e w' => e = .returned (.int .u8 (aHeardWhy 0 ⟨2, own, their, ph, pn, pt, l⟩)) ∧ AC w' j c S T (aHeard T 0 ⟨2, own, their, ph, pn, pt, l⟩) ∧ Fr (two j c) w w' := by
  have h14 := h.st
  have h16 := h.their
  have hf := h.frozen
  go_enter Try.func33, Try.ntmps33
  go_wp2_with fail
  refine (ahurry_any j c S T _ _ h).mono ?_
  rintro e w' ⟨rfl, rfl⟩
  go_wp2
  go_ret
  exact ⟨rfl, h, (Fr.refl (two j c) w)⟩

theorem aheard_2_1 (j c : Nat) (S : List Value) (T : List Int) (own their : Bool) (ph : Bool) (pn pt : Int) (l : List Int) (w : World) (h : AC w j c S T ⟨2, own, their, ph, pn, pt, l⟩) :
    Calls Try.prog 33 #[.pointer (some ⟨j, 0, none⟩), .int .u8 1] w fun e w' => e = .returned (.int .u8 (aHeardWhy 1 ⟨2, own, their, ph, pn, pt, l⟩)) ∧ AC w' j c S T (aHeard T 1 ⟨2, own, their, ph, pn, pt, l⟩) ∧ Fr (two j c) w w' := by
  have h14 := h.st
  have h16 := h.their
  have hf := h.frozen
  go_enter Try.func33, Try.ntmps33
  go_wp2_with fail
  refine (ahurry_any j c S T _ _ h).mono ?_
  rintro e w' ⟨rfl, rfl⟩
  have h17 := h.ph
  have h18 := h.pn
  have h19 := h.pt
  have h4 := ((h.setPh false).setPn 0).setPt 0
  have hF4 := (((Fr.refl (two j c) w).setJ 17 (.bool false)).setJ 18 (.int .i64 0)).setJ 19 (.int .i64 0)
  go_wp2_with fail
  refine (aprove_any j c S T _ _ h4).mono ?_
  rintro e w5 ⟨rfl, h5, hF5⟩
  go_wp2
  go_ret
  exact ⟨rfl, h5, hF4.then_ hF5⟩

theorem aheard_2_2 (j c : Nat) (S : List Value) (T : List Int) (own their : Bool) (ph : Bool) (pn pt : Int) (l : List Int) (w : World) (h : AC w j c S T ⟨2, own, their, ph, pn, pt, l⟩) :
    Calls Try.prog 33 #[.pointer (some ⟨j, 0, none⟩), .int .u8 2] w fun e w' => e = .returned (.int .u8 (aHeardWhy 2 ⟨2, own, their, ph, pn, pt, l⟩)) ∧ AC w' j c S T (aHeard T 2 ⟨2, own, their, ph, pn, pt, l⟩) ∧ Fr (two j c) w w' := by
  have h14 := h.st
  have h16 := h.their
  have hf := h.frozen
  go_enter Try.func33, Try.ntmps33
  go_wp2_with fail
  refine (ahurry_any j c S T _ _ h).mono ?_
  rintro e w' ⟨rfl, rfl⟩
  have h2 := h.setTheir true
  have hF2 := (Fr.refl (two j c) w).setJ 16 (.bool true)
  have h14 := h2.st
  have hf2 := h2.frozen
  have h17 := h2.ph
  have h18 := h2.pn
  have h19 := h2.pt
  have h4 := ((h2.setPh false).setPn 0).setPt 0
  have hF4 := ((hF2.setJ 17 (.bool false)).setJ 18 (.int .i64 0)).setJ 19 (.int .i64 0)
  go_wp2_with fail
  refine (aprove_any j c S T _ _ h4).mono ?_
  rintro e w5 ⟨rfl, h5, hF5⟩
  go_wp2
  go_ret
  exact ⟨rfl, h5, hF4.then_ hF5⟩

theorem aheard_2_3 (j c : Nat) (S : List Value) (T : List Int) (own their : Bool) (ph : Bool) (pn pt : Int) (l : List Int) (w : World) (h : AC w j c S T ⟨2, own, their, ph, pn, pt, l⟩) :
    Calls Try.prog 33 #[.pointer (some ⟨j, 0, none⟩), .int .u8 3] w fun e w' => e = .returned (.int .u8 (aHeardWhy 3 ⟨2, own, their, ph, pn, pt, l⟩)) ∧ AC w' j c S T (aHeard T 3 ⟨2, own, their, ph, pn, pt, l⟩) ∧ Fr (two j c) w w' := by
  have h14 := h.st
  have h16 := h.their
  have hf := h.frozen
  go_enter Try.func33, Try.ntmps33
  go_wp2_with fail
  refine (ahurry_any j c S T _ _ h).mono ?_
  rintro e w' ⟨rfl, rfl⟩
  go_wp2
  go_ret
  exact ⟨rfl, h, (Fr.refl (two j c) w)⟩

theorem aheard_3_0 (j c : Nat) (S : List Value) (T : List Int) (own their : Bool) (ph : Bool) (pn pt : Int) (l : List Int) (w : World) (h : AC w j c S T ⟨3, own, their, ph, pn, pt, l⟩) :
    Calls Try.prog 33 #[.pointer (some ⟨j, 0, none⟩), .int .u8 0] w fun e w' => e = .returned (.int .u8 (aHeardWhy 0 ⟨3, own, their, ph, pn, pt, l⟩)) ∧ AC w' j c S T (aHeard T 0 ⟨3, own, their, ph, pn, pt, l⟩) ∧ Fr (two j c) w w' := by
  have h14 := h.st
  have h16 := h.their
  have hf := h.frozen
  go_enter Try.func33, Try.ntmps33
  go_wp2_with fail
  refine (ahurry_any j c S T _ _ h).mono ?_
  rintro e w' ⟨rfl, rfl⟩
  go_wp2_with fail
  refine (anear_any j c S T _ _ h).mono ?_
  rintro e w3 ⟨rfl, h3, hF3⟩
  go_wp2
  go_ret
  exact ⟨rfl, h3, (Fr.refl (two j c) w).then_ hF3⟩

theorem aheard_3_1_00 (j c : Nat) (S : List Value) (T : List Int) (ph : Bool) (pn pt : Int) (l : List Int) (w : World) (h : AC w j c S T ⟨3, false, false, ph, pn, pt, l⟩) :
    Calls Try.prog 33 #[.pointer (some ⟨j, 0, none⟩), .int .u8 1] w fun e w' => e = .returned (.int .u8 (aHeardWhy 1 ⟨3, false, false, ph, pn, pt, l⟩)) ∧ AC w' j c S T (aHeard T 1 ⟨3, false, false, ph, pn, pt, l⟩) ∧ Fr (two j c) w w' := by
  have h14 := h.st
  have h16 := h.their
  have hf := h.frozen
  go_enter Try.func33, Try.ntmps33
  go_wp2_with fail
  refine (ahurry_any j c S T _ _ h).mono ?_
  rintro e w' ⟨rfl, rfl⟩
  go_wp2_with fail
  refine (ahurry_any j c S T _ _ h).mono ?_
  rintro e w' ⟨rfl, rfl⟩
  go_wp2
  go_ret
  exact ⟨rfl, h, (Fr.refl (two j c) w)⟩

theorem aheard_3_1_01 (j c : Nat) (S : List Value) (T : List Int) (ph : Bool) (pn pt : Int) (l : List Int) (w : World) (h : AC w j c S T ⟨3, false, true, ph, pn, pt, l⟩) :
    Calls Try.prog 33 #[.pointer (some ⟨j, 0, none⟩), .int .u8 1] w fun e w' => e = .returned (.int .u8 (aHeardWhy 1 ⟨3, false, true, ph, pn, pt, l⟩)) ∧ AC w' j c S T (aHeard T 1 ⟨3, false, true, ph, pn, pt, l⟩) ∧ Fr (two j c) w w' := by
  have h14 := h.st
  have h16 := h.their
  have hf := h.frozen
  go_enter Try.func33, Try.ntmps33
  go_wp2_with fail
  refine (ahurry_any j c S T _ _ h).mono ?_
  rintro e w' ⟨rfl, rfl⟩
  go_wp2
  go_ret
  exact ⟨rfl, h, (Fr.refl (two j c) w)⟩

theorem aheard_3_1_10 (j c : Nat) (S : List Value) (T : List Int) (ph : Bool) (pn pt : Int) (l : List Int) (w : World) (h : AC w j c S T ⟨3, true, false, ph, pn, pt, l⟩) :
    Calls Try.prog 33 #[.pointer (some ⟨j, 0, none⟩), .int .u8 1] w fun e w' => e = .returned (.int .u8 (aHeardWhy 1 ⟨3, true, false, ph, pn, pt, l⟩)) ∧ AC w' j c S T (aHeard T 1 ⟨3, true, false, ph, pn, pt, l⟩) ∧ Fr (two j c) w w' := by
  have h14 := h.st
  have h16 := h.their
  have hf := h.frozen
  go_enter Try.func33, Try.ntmps33
  go_wp2_with fail
  refine (ahurry_any j c S T _ _ h).mono ?_
  rintro e w' ⟨rfl, rfl⟩
  go_wp2
  go_ret
  exact ⟨rfl, h, (Fr.refl (two j c) w)⟩

theorem aheard_3_1_11 (j c : Nat) (S : List Value) (T : List Int) (ph : Bool) (pn pt : Int) (l : List Int) (w : World) (h : AC w j c S T ⟨3, true, true, ph, pn, pt, l⟩) :
    Calls Try.prog 33 #[.pointer (some ⟨j, 0, none⟩), .int .u8 1] w fun e w' => e = .returned (.int .u8 (aHeardWhy 1 ⟨3, true, true, ph, pn, pt, l⟩)) ∧ AC w' j c S T (aHeard T 1 ⟨3, true, true, ph, pn, pt, l⟩) ∧ Fr (two j c) w w' := by
  have h14 := h.st
  have h16 := h.their
  have hf := h.frozen
  go_enter Try.func33, Try.ntmps33
  go_wp2_with fail
  refine (ahurry_any j c S T _ _ h).mono ?_
  rintro e w' ⟨rfl, rfl⟩
  go_wp2
  go_ret
  exact ⟨rfl, h, (Fr.refl (two j c) w)⟩

theorem aheard_3_2_00 (j c : Nat) (S : List Value) (T : List Int) (ph : Bool) (pn pt : Int) (l : List Int) (w : World) (h : AC w j c S T ⟨3, false, false, ph, pn, pt, l⟩) :
    Calls Try.prog 33 #[.pointer (some ⟨j, 0, none⟩), .int .u8 2] w fun e w' => e = .returned (.int .u8 (aHeardWhy 2 ⟨3, false, false, ph, pn, pt, l⟩)) ∧ AC w' j c S T (aHeard T 2 ⟨3, false, false, ph, pn, pt, l⟩) ∧ Fr (two j c) w w' := by
  have h14 := h.st
  have h16 := h.their
  have hf := h.frozen
  go_enter Try.func33, Try.ntmps33
  go_wp2_with fail
  refine (ahurry_any j c S T _ _ h).mono ?_
  rintro e w' ⟨rfl, rfl⟩
  have h2 := h.setTheir true
  have hF2 := (Fr.refl (two j c) w).setJ 16 (.bool true)
  have h14 := h2.st
  have hf2 := h2.frozen
  go_wp2_with fail
  refine (ahurry_any j c S T _ _ h2).mono ?_
  rintro e w' ⟨rfl, rfl⟩
  go_wp2_with fail
  refine (aprove_any j c S T _ _ h2).mono ?_
  rintro e w3 ⟨rfl, h3, hF3⟩
  go_wp2
  go_ret
  exact ⟨rfl, h3, hF2.then_ hF3⟩

theorem aheard_3_2_01 (j c : Nat) (S : List Value) (T : List Int) (ph : Bool) (pn pt : Int) (l : List Int) (w : World) (h : AC w j c S T ⟨3, false, true, ph, pn, pt, l⟩) :
    Calls Try.prog 33 #[.pointer (some ⟨j, 0, none⟩), .int .u8 2] w fun e w' => e = .returned (.int .u8 (aHeardWhy 2 ⟨3, false, true, ph, pn, pt, l⟩)) ∧ AC w' j c S T (aHeard T 2 ⟨3, false, true, ph, pn, pt, l⟩) ∧ Fr (two j c) w w' := by
  have h14 := h.st
  have h16 := h.their
  have hf := h.frozen
  go_enter Try.func33, Try.ntmps33
  go_wp2_with fail
  refine (ahurry_any j c S T _ _ h).mono ?_
  rintro e w' ⟨rfl, rfl⟩
  have h2 := h.setTheir true
  have hF2 := (Fr.refl (two j c) w).setJ 16 (.bool true)
  have h14 := h2.st
  have hf2 := h2.frozen
  go_wp2
  go_ret
  exact ⟨rfl, h2, hF2⟩

theorem aheard_3_2_10 (j c : Nat) (S : List Value) (T : List Int) (ph : Bool) (pn pt : Int) (l : List Int) (w : World) (h : AC w j c S T ⟨3, true, false, ph, pn, pt, l⟩) :
    Calls Try.prog 33 #[.pointer (some ⟨j, 0, none⟩), .int .u8 2] w fun e w' => e = .returned (.int .u8 (aHeardWhy 2 ⟨3, true, false, ph, pn, pt, l⟩)) ∧ AC w' j c S T (aHeard T 2 ⟨3, true, false, ph, pn, pt, l⟩) ∧ Fr (two j c) w w' := by
  have h14 := h.st
  have h16 := h.their
  have hf := h.frozen
  go_enter Try.func33, Try.ntmps33
  go_wp2_with fail
  refine (ahurry_any j c S T _ _ h).mono ?_
  rintro e w' ⟨rfl, rfl⟩
  have h2 := h.setTheir true
  have hF2 := (Fr.refl (two j c) w).setJ 16 (.bool true)
  have h14 := h2.st
  have hf2 := h2.frozen
  go_wp2
  go_ret
  exact ⟨rfl, h2, hF2⟩

theorem aheard_3_2_11 (j c : Nat) (S : List Value) (T : List Int) (ph : Bool) (pn pt : Int) (l : List Int) (w : World) (h : AC w j c S T ⟨3, true, true, ph, pn, pt, l⟩) :
    Calls Try.prog 33 #[.pointer (some ⟨j, 0, none⟩), .int .u8 2] w fun e w' => e = .returned (.int .u8 (aHeardWhy 2 ⟨3, true, true, ph, pn, pt, l⟩)) ∧ AC w' j c S T (aHeard T 2 ⟨3, true, true, ph, pn, pt, l⟩) ∧ Fr (two j c) w w' := by
  have h14 := h.st
  have h16 := h.their
  have hf := h.frozen
  go_enter Try.func33, Try.ntmps33
  go_wp2_with fail
  refine (ahurry_any j c S T _ _ h).mono ?_
  rintro e w' ⟨rfl, rfl⟩
  have h2 := h.setTheir true
  have hF2 := (Fr.refl (two j c) w).setJ 16 (.bool true)
  have h14 := h2.st
  have hf2 := h2.frozen
  go_wp2
  go_ret
  exact ⟨rfl, h2, hF2⟩

theorem aheard_3_3 (j c : Nat) (S : List Value) (T : List Int) (own their : Bool) (ph : Bool) (pn pt : Int) (l : List Int) (w : World) (h : AC w j c S T ⟨3, own, their, ph, pn, pt, l⟩) :
    Calls Try.prog 33 #[.pointer (some ⟨j, 0, none⟩), .int .u8 3] w fun e w' => e = .returned (.int .u8 (aHeardWhy 3 ⟨3, own, their, ph, pn, pt, l⟩)) ∧ AC w' j c S T (aHeard T 3 ⟨3, own, their, ph, pn, pt, l⟩) ∧ Fr (two j c) w w' := by
  have h14 := h.st
  have h16 := h.their
  have hf := h.frozen
  go_enter Try.func33, Try.ntmps33
  go_wp2_with fail
  refine (ahurry_any j c S T _ _ h).mono ?_
  rintro e w' ⟨rfl, rfl⟩
  go_wp2
  go_ret
  exact ⟨rfl, h, (Fr.refl (two j c) w)⟩

theorem aheard_any (j c : Nat) (S : List Value) (T : List Int) (s : AS) (st : Int) (w : World) (h : AC w j c S T s) (h1 : 0 ≤ s.st ∧ s.st ≤ 3) (h2 : 0 ≤ st ∧ st ≤ 3) :
    Calls Try.prog 33 #[.pointer (some ⟨j, 0, none⟩), .int .u8 st] w fun e w' => e = .returned (.int .u8 (aHeardWhy st s)) ∧ AC w' j c S T (aHeard T st s) ∧ Fr (two j c) w w' := by
  obtain ⟨t, own, their, ph, pn, pt, l⟩ := s
  rcases (by simp only at h1; omega : t = 0 ∨ t = 1 ∨ t = 2 ∨ t = 3) with rfl | rfl | rfl | rfl
  · rcases (by omega : st = 0 ∨ st = 1 ∨ st = 2 ∨ st = 3) with rfl | rfl | rfl | rfl
    · exact aheard_0_0 j c S T own their ph pn pt l w h
    · exact aheard_0_1 j c S T own their ph pn pt l w h
    · exact aheard_0_2 j c S T own their ph pn pt l w h
    · exact aheard_0_3 j c S T own their ph pn pt l w h
  · rcases (by omega : st = 0 ∨ st = 1 ∨ st = 2 ∨ st = 3) with rfl | rfl | rfl | rfl
    · exact aheard_1_0 j c S T own their ph pn pt l w h
    · exact aheard_1_1 j c S T own their ph pn pt l w h
    · exact aheard_1_2 j c S T own their ph pn pt l w h
    · exact aheard_1_3 j c S T own their ph pn pt l w h
  · rcases (by omega : st = 0 ∨ st = 1 ∨ st = 2 ∨ st = 3) with rfl | rfl | rfl | rfl
    · exact aheard_2_0 j c S T own their ph pn pt l w h
    · exact aheard_2_1 j c S T own their ph pn pt l w h
    · exact aheard_2_2 j c S T own their ph pn pt l w h
    · exact aheard_2_3 j c S T own their ph pn pt l w h
  · rcases (by omega : st = 0 ∨ st = 1 ∨ st = 2 ∨ st = 3) with rfl | rfl | rfl | rfl
    · exact aheard_3_0 j c S T own their ph pn pt l w h
    · cases own <;> cases their
      · exact aheard_3_1_00 j c S T ph pn pt l w h
      · exact aheard_3_1_01 j c S T ph pn pt l w h
      · exact aheard_3_1_10 j c S T ph pn pt l w h
      · exact aheard_3_1_11 j c S T ph pn pt l w h
    · cases own <;> cases their
      · exact aheard_3_2_00 j c S T ph pn pt l w h
      · exact aheard_3_2_01 j c S T ph pn pt l w h
      · exact aheard_3_2_10 j c S T ph pn pt l w h
      · exact aheard_3_2_11 j c S T ph pn pt l w h
    · exact aheard_3_3 j c S T own their ph pn pt l w h

theorem ahurryon_any (j c : Nat) (S : List Value) (T : List Int) (s : AS) (on : Bool) (w : World) (h : AC w j c S T s) :
    Calls Try.prog 37 #[.pointer (some ⟨j, 0, none⟩), .bool on] w fun e w' => e = .returned (.tuple #[]) ∧ AC w' j c S T (aHurry T on s) ∧ Fr (two j c) w w' := by
  have h15 := h.own
  have hf := h.frozen
  have h2 := h.setOwn on
  have hF2 := (Fr.refl (two j c) w).setJ 15 (.bool on)
  have h14 := h2.st
  obtain ⟨q, hq⟩ : ∃ q, aHurry T on s = q := ⟨_, rfl⟩
  rw [hq]
  unfold aHurry at hq
  obtain ⟨st, own, their, ph, pn, pt, l⟩ := s
  simp only at hq h14
  obtain ⟨u, hu⟩ : ∃ u, (own || their) = u := ⟨_, rfl⟩
  by_cases h3 : st = 3
  · subst h3
    cases u
    · cases on
      · rw [hu] at hq; simp at hq; subst hq
        go_enter Try.func37, Try.ntmps37
        go_wp2_with fail
        refine (ahurry_any j c S T _ _ h).mono ?_
        rintro e w' ⟨rfl, rfl⟩
        simp only [hu]
        go_wp2
        go_end0
        exact ⟨rfl, h2, hF2⟩
      · rw [hu] at hq; simp at hq; subst hq
        go_enter Try.func37, Try.ntmps37
        go_wp2_with fail
        refine (ahurry_any j c S T _ _ h).mono ?_
        rintro e w' ⟨rfl, rfl⟩
        simp only [hu]
        go_wp2_with fail
        refine (aprove_any j c S T _ _ h2).mono ?_
        rintro e w3 ⟨rfl, h3, hF3⟩
        go_wp2
        go_end0
        exact ⟨rfl, h3, hF2.then_ hF3⟩
    · rw [hu] at hq; simp at hq; subst hq
      go_enter Try.func37, Try.ntmps37
      go_wp2_with fail
      refine (ahurry_any j c S T _ _ h).mono ?_
      rintro e w' ⟨rfl, rfl⟩
      simp only [hu]
      go_wp2
      go_end0
      exact ⟨rfl, h2, hF2⟩
  · have e3 : (st == 3) = false := by simp [h3]
    simp [h3] at hq; subst hq
    clear h3
    go_enter Try.func37, Try.ntmps37
    go_wp2_with fail
    refine (ahurry_any j c S T _ _ h).mono ?_
    rintro e w' ⟨rfl, rfl⟩
    simp only [hu]
    go_wp2
    go_end0
    exact ⟨rfl, h2, hF2⟩
end Go.Proofs.Ytpalpoecakijnaa
