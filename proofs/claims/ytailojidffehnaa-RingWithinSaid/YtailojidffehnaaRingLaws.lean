/-
  The walks of RingGaps and RingTurns: whatever the octets and the number, the answer is true.
-/
import Derived.Test.YtailojidffehnaaRing
namespace Go.Proofs.Ytailojidffehnaa
open Go.RowKit
set_option linter.unusedVariables false
set_option linter.unusedSimpArgs false

theorem gap_range (a b : Int) : 0 ≤ gap a b ∧ gap a b < 128 := by unfold gap; omega

theorem ringGaps_walk (a b c : Int) (ha : 0 ≤ a) (hb : 0 ≤ b) (w : World) :
    Calls Try.prog 3 #[.int .u8 a, .int .u8 b, .int .u8 c] w fun e w' => e = .returned (.bool true) ∧ w = w' := by
  have r1 := gap_range a b
  have r2 := gap_range b a
  have r3 := gap_range b c
  have r4 := gap_range a c
  have h2 : ((gap a b + gap b c - gap a c).tmod 128 == 0) = true := by
    rw [beq_iff_eq]
    apply Int.tmod_eq_zero_of_dvd
    unfold gap; omega
  by_cases h0 : gap a b = 0
  · have h3 : (gap a b == 0) = true := by simp [h0]
    have h4 : (gap b a == 0) = true := by rw [beq_iff_eq]; unfold gap at *; omega
    have h1 : (a % 128 == b % 128) = true := by rw [beq_iff_eq]; unfold gap at *; omega
    clear h0
    go_enter Try.func3, Try.ntmps3
    go_wp2_with (first | (go_at_call 15; refine (gap_any _ _ _).mono ?_; rintro e w' ⟨rfl, rfl⟩) | (go_at_call 16; refine (awake_any _).mono ?_; rintro e w' ⟨rfl, rfl⟩) | (go_at_call 17; refine (refGap_any _ _ ha hb _).mono ?_; rintro e w' ⟨rfl, rfl⟩))
    go_ret
    exact ⟨rfl, rfl⟩
  · have h3 : (gap a b == 0) = false := by simp [h0]
    have h4 : (gap a b + gap b a == 128) = true := by rw [beq_iff_eq]; unfold gap at *; omega
    have h1 : (a % 128 == b % 128) = false := by rw [beq_eq_false_iff_ne]; unfold gap at *; omega
    clear h0
    go_enter Try.func3, Try.ntmps3
    go_wp2_with (first | (go_at_call 15; refine (gap_any _ _ _).mono ?_; rintro e w' ⟨rfl, rfl⟩) | (go_at_call 16; refine (awake_any _).mono ?_; rintro e w' ⟨rfl, rfl⟩) | (go_at_call 17; refine (refGap_any _ _ ha hb _).mono ?_; rintro e w' ⟨rfl, rfl⟩))
    go_ret
    exact ⟨rfl, rfl⟩

theorem tmod128 (n : Int) : (0 ≤ n.tmod 128 ∧ n % 128 = n.tmod 128 ∨ n.tmod 128 < 0 ∧ n % 128 = n.tmod 128 + 128) ∧ -127 ≤ n.tmod 128 ∧ n.tmod 128 ≤ 127 := by
  rw [Int.tmod_eq_emod]
  split <;> rename_i h
  · omega
  · have h2 : ¬ (128 : Int) ∣ n := fun k => h (.inr k)
    have h3 : n % 128 ≠ 0 := fun k => h2 (Int.dvd_of_emod_eq_zero k)
    have h4 : ((128 : Int).natAbs : Int) = 128 := rfl
    omega

theorem ringTurns_walk (n a : Int) (h0 : -9223372036854775808 ≤ n) (h1 : n ≤ 9223372036854775807) (ha : 0 ≤ a) (ha2 : a ≤ 255) (w : World) :
    Calls Try.prog 4 #[.int .i64 n, .int .u8 a] w fun e w' => e = .returned (.bool true) ∧ w = w' := by
  have e1 : ((a + 1) % 128 == (a + 1) % 128) = true := by simp
  obtain ⟨q, b1⟩ := tmod128 n
  by_cases h : n.tmod 128 < 0
  · have e3 : (n % 128 == n.tmod 128 + 128) = true := by rw [beq_iff_eq]; omega
    clear q
    go_enter Try.func4, Try.ntmps4
    go_wp2_with (first | (go_at_call 18; refine (at_any _ _).mono ?_; rintro e w' ⟨rfl, rfl⟩) | (go_at_call 16; refine (awake_any _).mono ?_; rintro e w' ⟨rfl, rfl⟩) | (go_at_call 19; refine (next_any _ _).mono ?_; rintro e w' ⟨rfl, rfl⟩) | (go_at_call 20; refine (prev_any _ _).mono ?_; rintro e w' ⟨rfl, rfl⟩))
    go_ret
    exact ⟨ret_bool (by rw [beq_iff_eq]; omega), rfl⟩
  · have e3 : (n % 128 == n.tmod 128) = true := by rw [beq_iff_eq]; omega
    clear q
    go_enter Try.func4, Try.ntmps4
    go_wp2_with (first | (go_at_call 18; refine (at_any _ _).mono ?_; rintro e w' ⟨rfl, rfl⟩) | (go_at_call 16; refine (awake_any _).mono ?_; rintro e w' ⟨rfl, rfl⟩) | (go_at_call 19; refine (next_any _ _).mono ?_; rintro e w' ⟨rfl, rfl⟩) | (go_at_call 20; refine (prev_any _ _).mono ?_; rintro e w' ⟨rfl, rfl⟩))
    go_ret
    exact ⟨ret_bool (by rw [beq_iff_eq]; omega), rfl⟩

theorem ringGaps_row (a b c : Int) (w : World) (ha : 0 ≤ a ∧ a ≤ 255) (hb : 0 ≤ b ∧ b ≤ 255) (hc : 0 ≤ c ∧ c ≤ 255) :
    Calls Try.prog 3 #[.int .u8 a, .int .u8 b, .int .u8 c] w fun e w' => e = .returned (.bool true) ∧ Below w.heap.size w w' :=
  (ringGaps_walk a b c ha.1 hb.1 w).mono fun _ _ ⟨he, hw⟩ => ⟨he, hw ▸ Below.refl _ _⟩

theorem ringTurns_row (n a : Int) (w : World) (hn : -9223372036854775808 ≤ n ∧ n ≤ 9223372036854775807) (ha : 0 ≤ a ∧ a ≤ 255) :
    Calls Try.prog 4 #[.int .i64 n, .int .u8 a] w fun e w' => e = .returned (.bool true) ∧ Below w.heap.size w w' :=
  (ringTurns_walk n a hn.1 hn.2 ha.1 ha.2 w).mono fun _ _ ⟨he, hw⟩ => ⟨he, hw ▸ Below.refl _ _⟩
end Go.Proofs.Ytailojidffehnaa
