/-
  The contracts of the ring's small functions: what each answers, for every octet, the world left as it was.
-/
import Derived.Test.YtailojidffehnaaProg
import Derived.WalkKit
import Derived.Below
import Derived.WalkLawsBesides
import Derived.WalkSpells
import Derived.OpenShut
import Derived.Lib.Hide
namespace Go.Proofs.Ytailojidffehnaa
open Go.RowKit
set_option linter.unusedVariables false
set_option linter.unusedSimpArgs false

theorem and127 (a : Int) : bits .and .i64 a 127 = a % 128 := by
  have h : (BitVec.ofInt IntKind.i64.bits a &&& BitVec.ofInt IntKind.i64.bits 127).toNat = (a % 128).toNat := by
    rw [BitVec.toNat_and]
    have h1 : (BitVec.ofInt IntKind.i64.bits a).toNat = (a % 18446744073709551616).toNat := BitVec.toNat_ofInt ..
    have h2 : (BitVec.ofInt IntKind.i64.bits 127).toNat = 2 ^ 7 - 1 := by decide
    rw [h1, h2, Nat.and_two_pow_sub_one_eq_mod _ 7]; omega
  simp only [bits, h]
  rw [IntKind.wrap_i64]
  omega

theorem ret_int {k : IntKind} {a b : Int} (h : a = b) : Ending.returned (.int k a) = .returned (.int k b) := by rw [h]
theorem ret_bool {a b : Bool} (h : a = b) : Ending.returned (.bool a) = .returned (.bool b) := by rw [h]

/-- How many steps from one to another one. -/
def gap (a b : Int) : Int := (b - a) % 128
def within (n a b : Int) : Bool := decide (gap a n ≤ gap a b)

theorem gap_any (a b : Int) (w : World) : Calls Try.prog 15 #[.int .u8 a, .int .u8 b] w fun e w' => e = .returned (.int .i64 (gap a b)) ∧ w = w' := by
  go_enter Try.func15, Try.ntmps15
  go_wp2
  go_ret
  exact ⟨rfl, rfl⟩

theorem at_any (a : Int) (w : World) : Calls Try.prog 18 #[.int .i64 a] w fun e w' => e = .returned (.int .u8 (a % 128)) ∧ w = w' := by
  have h := and127 a
  have h2 : a % 128 % 256 = a % 128 := by omega
  go_enter Try.func18, Try.ntmps18
  go_wp2
  go_ret
  exact ⟨rfl, rfl⟩

theorem next_any (a : Int) (w : World) : Calls Try.prog 19 #[.int .u8 a] w fun e w' => e = .returned (.int .u8 ((a + 1) % 128)) ∧ w = w' := by
  go_enter Try.func19, Try.ntmps19
  go_wp2
  go_ret
  exact ⟨ret_int (by omega), rfl⟩

theorem prev_any (a : Int) (w : World) : Calls Try.prog 20 #[.int .u8 a] w fun e w' => e = .returned (.int .u8 ((a + 127) % 128)) ∧ w = w' := by
  go_enter Try.func20, Try.ntmps20
  go_wp2
  go_ret
  exact ⟨ret_int (by omega), rfl⟩

theorem within_any (n a b : Int) (w : World) : Calls Try.prog 22 #[.int .u8 n, .int .u8 a, .int .u8 b] w fun e w' => e = .returned (.bool (within n a b)) ∧ w = w' := by
  go_enter Try.func22, Try.ntmps22
  go_wp2_with (go_at_call 15; refine (gap_any _ _ _).mono ?_; rintro e w' ⟨rfl, rfl⟩)
  go_ret
  exact ⟨rfl, rfl⟩

theorem awake_any (w : World) : Calls Try.prog 16 #[] w fun e w' => e = .returned (.bool true) ∧ w = w' := by
  have g1 : (gap 126 1 == 3) = true := by decide
  have g2 : within 127 126 1 = true := by decide
  go_enter Try.func16, Try.ntmps16
  go_wp2_with (first | (go_at_call 15; refine (gap_any _ _ _).mono ?_; rintro e w' ⟨rfl, rfl⟩) | (go_at_call 22; refine (within_any _ _ _ _).mono ?_; rintro e w' ⟨rfl, rfl⟩))
  go_ret
  exact ⟨rfl, rfl⟩

theorem refGap_any (a b : Int) (ha : 0 ≤ a) (hb : 0 ≤ b) (w : World) : Calls Try.prog 17 #[.int .u8 a, .int .u8 b] w fun e w' => e = .returned (.int .i64 (gap a b)) ∧ w = w' := by
  go_enter Try.func17, Try.ntmps17
  go_wp2
  go_loop [5, 6] (fun n x => ∃ k y : Int, 0 ≤ k ∧ k < 128 ∧ 0 ≤ y ∧ y < 128 ∧ (y + gap y b) % 128 = b % 128 ∧ k + gap y b = gap a b ∧ n = .int .i64 k ∧ x = .int .u8 y) (fun _ x => (gap (intOf x) b).toNat)
  case atStart => exact ⟨0, a % 128, by omega, by omega, by omega, by omega, by unfold gap; omega, by unfold gap; omega, rfl, rfl⟩
  case round =>
    obtain ⟨k, y, h0, h1, h2, h3, h4, h5, rfl, rfl⟩ := hrel
    have g0 : 0 ≤ gap y b ∧ gap y b < 128 := by unfold gap; omega
    have g1 : 0 ≤ gap a b ∧ gap a b < 128 := by unfold gap; omega
    have H4 := Lib.hid h4
    have H5 := Lib.hid h5
    clear h4 h5
    by_cases hy : y = b % 128
    · have hz : Hid (gap y b = 0) := by show gap y b = 0; unfold gap; omega
      have hy2 : (y != b % 128) = false := by simp [hy]
      have hy := Lib.hid hy
      clear g0 g1
      go_wp2
      go_ret
      exact ⟨ret_int (by have := H5.out; have := hz.out; omega), rfl⟩
    · have hz : Hid (gap ((y + 1) % 128) b = gap y b - 1) := by show gap ((y + 1) % 128) b = gap y b - 1; unfold gap; omega
      have hy2 : (y != b % 128) = true := by simp [hy]
      have hk : k + 1 < 128 := by have := H5.out; have : gap y b ≠ 0 := by unfold gap; omega
                                  omega
      go_wp2
      have h4 := H4.out
      have h5 := H5.out
      have hz := hz.out
      have hn : gap y b ≠ 0 := by unfold gap; omega
      exact ⟨⟨k + 1, (y + 1) % 128, by omega, hk, by omega, by omega, by rw [hz]; omega, by rw [hz]; omega, rfl, rfl⟩, by simp only [intOf]; rw [hz]; omega⟩

end Go.Proofs.Ytailojidffehnaa
