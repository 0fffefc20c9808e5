/-
  However many units that are right come (up to 2000), none ends the link and no count begins.
-/
import Derived.Test.YtailojidffehnaaPBucketRightx1
import Derived.OpenShut
namespace Go.Proofs.Ytailojidffehnaa.Pure
open Go.RowKit Go.Proofs.Ytailojidffehnaa.PBucketRight Go.Proofs.YtailojidffehnaaW.PrintWords Go.Proofs.YtailojidffehnaaW.PrintLast

/-- One unit more: the count, and the units since. -/
def bkN (n s : Int) (w : Bool) : Int := if n > 0 then (if s + 1 ≥ 256 then (if w = true then n else n - 1) else (if w = true then n + 1 else n)) else (if w = true then n + 1 else n)
def bkS (n s : Int) (w : Bool) : Int := if n > 0 then (if s + 1 ≥ 256 then 0 else s + 1) else (if w = true then 0 else s)

theorem bk_unit (n s : Int) (w : Bool) (k : Nat) (h0 : 0 ≤ n) (h1 : n ≤ 1000000) (h2 : 0 ≤ s) (h3 : s ≤ 1000000) :
    bucket_Leak_Unit.f (k + 1) n s w = some (bkN n s w, bkS n s w, decide (bkN n s w ≥ 64)) := by
  have w1 : wrap64 (n + 1) = n + 1 := by unfold wrap64; omega
  have w2 : wrap64 (n - 1) = n - 1 := by unfold wrap64; omega
  have w3 : wrap64 (s + 1) = s + 1 := by unfold wrap64; omega
  have w4 : wrap64 (n - 1 + 1) = n := by unfold wrap64; omega
  unfold bucket_Leak_Unit.f
  simp only [bucket_Leak_Unit.j0, w1, w2, w3, w4]
  unfold bkN bkS
  by_cases a : n > 0
  · by_cases b : s + 1 ≥ 256
    · cases w <;> simp [a, b]
    · cases w
      · simp [a, b]
      · have : ¬ n = 0 := by omega
        simp [a, b, this]
  · obtain rfl : n = 0 := by omega
    cases w <;> simp

theorem bk_awake (k : Nat) (hk : 300 ≤ k) : signalmanlaw08_awake.f k = some true :=
  at_rounds signalmanlaw08_awake.mono hk (by decide +kernel)

theorem bk_right (a : Int) (h0 : 0 ≤ a) (d : Nat) : ∀ (k : Nat) (i : Int), 0 ≤ i → (a % 2000 - i).toNat = d → d + 2 < k → signalmanlaw08_BucketRight.l0 k a i 0 0 = some true := by
  have hm : wrap64 (Int.tmod a 2000) = a % 2000 := by
    rw [Int.tmod_eq_emod_of_nonneg h0]; unfold wrap64; omega
  induction d with
  | zero =>
    intro k i hi hd hk
    obtain ⟨k, rfl⟩ : ∃ m, k = m + 1 := ⟨k - 1, by omega⟩
    rw [signalmanlaw08_BucketRight.l0]
    rw [hm, if_neg (by omega)]
  | succ d ih =>
    intro k i hi hd hk
    obtain ⟨k, rfl⟩ : ∃ m, k = m + 2 := ⟨k - 2, by omega⟩
    have hw : wrap64 (i + 1) = i + 1 := by unfold wrap64; omega
    have hn : bkN 0 0 false = 0 := by decide
    have hs : bkS 0 0 false = 0 := by decide
    rw [signalmanlaw08_BucketRight.l0]
    rw [hm, if_pos (by omega), bk_unit 0 0 false k (by omega) (by omega) (by omega) (by omega), hn, hs, hw]
    simp only [Option.bind_some]
    rw [if_neg (by decide)]
    simp only [if_true]
    exact ih (k + 1) (i + 1) (by omega) (by omega) (by omega)

theorem BucketRight : signalmanlaw08_BucketRight.Pure := by
  intro a ha
  have hb := bounds_u16 ha
  refine ⟨3000, ?_⟩
  unfold signalmanlaw08_BucketRight.f
  rw [bk_awake 3000 (by omega)]
  simp only [Option.bind_some, if_true]
  exact bk_right a hb.1 _ 3000 0 (by omega) rfl (by omega)

end Go.Proofs.Ytailojidffehnaa.Pure
