/-
  Behind up to 59 units that are wrong, and 256 times as many that are right, at most one is still counted.
-/
import Derived.Test.YtailojidffehnaaPBucketForgetsx2
import Derived.OpenShut
namespace Go.Proofs.Ytailojidffehnaa.Pure
open Go.RowKit Go.Proofs.Ytailojidffehnaa.PBucketForgets Go.Proofs.YtailojidffehnaaW.PrintWords Go.Proofs.YtailojidffehnaaW.PrintLast

/-- One unit more: the count, and the units since. -/
def bkN (n s : Int) (w : Bool) : Int := if n > 0 then (if s + 1 ≥ 256 then (if w = true then n else n - 1) else (if w = true then n + 1 else n)) else (if w = true then n + 1 else n)
def bkS (n s : Int) (w : Bool) : Int := if n > 0 then (if s + 1 ≥ 256 then 0 else s + 1) else (if w = true then 0 else s)

theorem bk_unit (n s : Int) (w : Bool) (k : Nat) (h0 : 0 ≤ n) (h1 : n ≤ 1000000) (h2 : 0 ≤ s) (h3 : s ≤ 1000000) :
    bucket_Leak_Unit.f (k + 1) n s w = some (bkN n s w, bkS n s w, decide (bkN n s w ≥ 64)) := by
  have w1 : wrap64 (n + 1) = n + 1 := by unfold wrap64; omega
  have w2 : wrap64 (n - 1) = n - 1 := by unfold wrap64; omega
  have w3 : wrap64 (s + 1) = s + 1 := by unfold wrap64; omega
  have w4 : wrap64 (n - 1 + 1) = n := by unfold wrap64; omega
  unfold bucket_Leak_Unit.f
  simp only [bucket_Leak_Unit.j0, w1, w2, w3, w4]
  unfold bkN bkS
  by_cases a : n > 0
  · by_cases b : s + 1 ≥ 256
    · cases w <;> simp [a, b]
    · cases w
      · simp [a, b]
      · have : ¬ n = 0 := by omega
        simp [a, b, this]
  · obtain rfl : n = 0 := by omega
    cases w <;> simp

theorem bk_awake (k : Nat) (hk : 300 ≤ k) : signalmanlaw08_awake.f k = some true :=
  at_rounds signalmanlaw08_awake.mono hk (by decide +kernel)

theorem bk_back (m : Int) (h0 : 0 ≤ m) (h1 : m < 60) (d : Nat) : ∀ (k : Nat) (i n s : Int), 0 ≤ i → (256 * m - i).toNat = d → d + 2 < k → i ≤ 256 * m → 0 ≤ n → n ≤ 60 → 0 ≤ s → s < 256 →
    (n = 0 ∨ 256 * (m - n) + s = m - 1 + i) → signalmanlaw08_BucketForgets.l1 k m i n s = some true := by
  have hm : wrap64 (256 * m) = 256 * m := by unfold wrap64; omega
  induction d with
  | zero =>
    intro k i n s hi hd hk hle hn hn2 hs hs2 hinv
    obtain ⟨k, rfl⟩ : ∃ m, k = m + 1 := ⟨k - 1, by omega⟩
    rw [signalmanlaw08_BucketForgets.l1]
    rw [hm, if_neg (by omega), if_pos (by omega)]
    simp; omega
  | succ d ih =>
    intro k i n s hi hd hk hle hn hn2 hs hs2 hinv
    obtain ⟨k, rfl⟩ : ∃ m, k = m + 2 := ⟨k - 2, by omega⟩
    have hw : wrap64 (i + 1) = i + 1 := by unfold wrap64; omega
    rw [signalmanlaw08_BucketForgets.l1]
    rw [hm, if_pos (by omega), bk_unit n s false k (by omega) (by omega) (by omega) (by omega), hw]
    simp only [Option.bind_some]
    apply ih (k + 1) (i + 1)
    all_goals (try unfold bkN)
    all_goals (try unfold bkS)
    all_goals (try simp only [Bool.false_eq_true, if_false])
    all_goals first
      | omega
      | (split <;> first | omega | (split <;> omega))

theorem bk_forth (m : Int) (h0 : 0 ≤ m) (h1 : m < 60) (d : Nat) : ∀ (k : Nat) (i n s : Int), 0 ≤ i → (m - i).toNat = d → d + 20000 < k → i ≤ m → n = i → 0 ≤ s → (n = 0 ∧ s = 0 ∨ s = n - 1) →
    signalmanlaw08_BucketForgets.l0 k m i n s = some true := by
  induction d with
  | zero =>
    intro k i n s hi hd hk hle hn hs hinv
    obtain ⟨k, rfl⟩ : ∃ m, k = m + 1 := ⟨k - 1, by omega⟩
    rw [signalmanlaw08_BucketForgets.l0]
    rw [if_neg (by omega), if_pos (by omega)]
    exact bk_back m h0 h1 _ k 0 n s (by omega) rfl (by omega) (by omega) (by omega) (by omega) (by omega) (by omega) (by omega)
  | succ d ih =>
    intro k i n s hi hd hk hle hn hs hinv
    obtain ⟨k, rfl⟩ : ∃ m, k = m + 2 := ⟨k - 2, by omega⟩
    have hw : wrap64 (i + 1) = i + 1 := by unfold wrap64; omega
    rw [signalmanlaw08_BucketForgets.l0]
    rw [if_pos (by omega), bk_unit n s true k (by omega) (by omega) (by omega) (by omega), hw]
    simp only [Option.bind_some]
    apply ih (k + 1) (i + 1)
    all_goals (try unfold bkN)
    all_goals (try unfold bkS)
    all_goals (try simp only [if_true])
    all_goals first
      | omega
      | (split <;> first | omega | (split <;> omega))

theorem BucketForgets : signalmanlaw08_BucketForgets.Pure := by
  intro a b ha hb
  have h := bounds_u8 ha
  refine ⟨21000, ?_⟩
  have hm : Int.tmod (wrap64 a) 60 = a % 60 := by
    have : wrap64 a = a := by unfold wrap64; omega
    rw [this, Int.tmod_eq_emod_of_nonneg h.1]
  unfold signalmanlaw08_BucketForgets.f
  rw [bk_awake 21000 (by omega), hm]
  simp only [Option.bind_some, if_true]
  exact bk_forth (a % 60) (by omega) (by omega) _ 21000 0 0 0 (by omega) rfl (by omega) (by omega) rfl (by omega) (by omega)

end Go.Proofs.Ytailojidffehnaa.Pure
