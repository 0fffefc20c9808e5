/-
  The walk of SetupUnits: whatever the octets and the delay, the answer is true.
-/
import Derived.Test.YtailojidffehnaaSet
namespace Go.Proofs.Ytailojidffehnaa
open Go.RowKit
set_option linter.unusedVariables false
set_option linter.unusedSimpArgs false

def leastT (d : Int) : Int := if d < 0 then 682 else (2 * d + 7) / 8 + 674 + 8

theorem least_any (d : Int) (h0 : -4294967296 ≤ d) (h1 : d ≤ 4294967296) (w : World) : Calls Try.prog 32 #[.int .i64 d] w fun e w' => e = .returned (.int .i64 (leastT d)) ∧ w = w' := by
  have u : unitT 279 = 337 := by decide
  by_cases hd : d < 0
  · have hu : Hid (leastT d = 682) := by show leastT d = 682; unfold leastT; rw [if_pos hd]
    go_enter Try.func32, Try.ntmps32
    go_wp2_with (go_at_call 31; refine (unit_any _ (by omega) (by omega) _).mono ?_; rintro e w' ⟨rfl, rfl⟩)
    go_ret
    exact ⟨ret_int (by rw [hu.out]), rfl⟩
  · have hu : Hid (leastT d = (2 * d + 7) / 8 + 674 + 8) := by show leastT d = _; unfold leastT; rw [if_neg hd]
    go_enter Try.func32, Try.ntmps32
    go_wp2_with (go_at_call 31; refine (unit_any _ (by omega) (by omega) _).mono ?_; rintro e w' ⟨rfl, rfl⟩)
    go_ret
    exact ⟨ret_int (by rw [hu.out]), rfl⟩

theorem setupUnits_row (n d : Int) (w : World) (hn : -2147483648 ≤ n ∧ n ≤ 2147483647) (hd : -2147483648 ≤ d ∧ d ≤ 2147483647) :
    Calls Try.prog 14 #[.int .i32 n, .int .i32 d] w fun e w' => e = .returned (.bool true) ∧ Below w.heap.size w w' := by
  have u : unitT 279 = 337 := by decide
  by_cases h : n < 0
  · have e1 : unitT n = 2 := by unfold unitT; rw [if_pos h]
    have e2 : unitT 1 = 4 := by decide
    have e3 : unitT 0 = 2 := by decide
    by_cases k : d < 0
    · have e4 : leastT d = 682 := by unfold leastT; rw [if_pos k]
      go_enter Try.func14, Try.ntmps14
      go_wp2_with (first | (go_at_call 28; refine (awake9_any _).mono ?_; rintro e w' ⟨rfl, hB⟩) | (go_at_call 31; refine (unit_any _ (by omega) (by omega) _).mono ?_; rintro e w' ⟨rfl, rfl⟩) | (go_at_call 32; refine (least_any _ (by omega) (by omega) _).mono ?_; rintro e w' ⟨rfl, rfl⟩))
      go_ret
      exact ⟨rfl, by assumption⟩
    · have e4 : (leastT d == (2 * d + 7) / 8 + 674 + 8) = true := by unfold leastT; rw [if_neg k]; simp
      go_enter Try.func14, Try.ntmps14
      go_wp2_with (first | (go_at_call 28; refine (awake9_any _).mono ?_; rintro e w' ⟨rfl, hB⟩) | (go_at_call 31; refine (unit_any _ (by omega) (by omega) _).mono ?_; rintro e w' ⟨rfl, rfl⟩) | (go_at_call 32; refine (least_any _ (by omega) (by omega) _).mono ?_; rintro e w' ⟨rfl, rfl⟩))
      go_ret
      exact ⟨rfl, by assumption⟩
  · have e1 : (unitT n == (8 * n + 8 * n / 5 + 15) / 8 + 1) = true := by unfold unitT; rw [if_neg h]; simp
    have e2 : decide (unitT n ≤ unitT (n + 1)) = true := by unfold unitT; rw [if_neg h, if_neg (by omega)]; simp; omega
    by_cases k : d < 0
    · have e4 : leastT d = 682 := by unfold leastT; rw [if_pos k]
      go_enter Try.func14, Try.ntmps14
      go_wp2_with (first | (go_at_call 28; refine (awake9_any _).mono ?_; rintro e w' ⟨rfl, hB⟩) | (go_at_call 31; refine (unit_any _ (by omega) (by omega) _).mono ?_; rintro e w' ⟨rfl, rfl⟩) | (go_at_call 32; refine (least_any _ (by omega) (by omega) _).mono ?_; rintro e w' ⟨rfl, rfl⟩))
      go_ret
      exact ⟨rfl, by assumption⟩
    · have e4 : (leastT d == (2 * d + 7) / 8 + 674 + 8) = true := by unfold leastT; rw [if_neg k]; simp
      go_enter Try.func14, Try.ntmps14
      go_wp2_with (first | (go_at_call 28; refine (awake9_any _).mono ?_; rintro e w' ⟨rfl, hB⟩) | (go_at_call 31; refine (unit_any _ (by omega) (by omega) _).mono ?_; rintro e w' ⟨rfl, rfl⟩) | (go_at_call 32; refine (least_any _ (by omega) (by omega) _).mono ?_; rintro e w' ⟨rfl, rfl⟩))
      go_ret
      exact ⟨rfl, by assumption⟩
end Go.Proofs.Ytailojidffehnaa
