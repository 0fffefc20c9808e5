/-
  Where each unit that is wrong is followed by at least 255 that are right, the link never fails and never more than one is counted.
-/
import Derived.Test.YtailojidffehnaaPBucketRarex2
import Derived.OpenShut
import Derived.Test.YtailojidffehnaaWSized
namespace Go.Proofs.Ytailojidffehnaa.PrintWords
open Go.ChangeShapes Go.WideShapes in
/-- The print's own lemma under the name that the printed row calls it by. -/
theorem sized_ints {H : Type} {enc : TypeId × Value → H} {P : Program} {W : World} {base : Nat} {spare : Nat → Bool} {held : Bool} {t e : TypeId} {k : IntKind} {a : Option Addr} {len cap : Nat} {d : DataW H} {ps : List MemPlace} {ts : List TypeId} {ds : List (DataW H)} {j : Nat}
    (hsz : (DataW.weightsEach P ts ds).all (· ≤ reachBytes) = true) (ht : ts[j]? = some t) (hd : ds[j]? = some d) (hu : P.underlying t = some (.slice e)) (he : P.underlying e = some (.int k)) (hc : P.cellsOf e = 1) {B : Nat} (hB : P.bytesOf e = B)
    (h : DataW.Trod enc P W base spare held t (.slice a len cap) d ps) : len * B ≤ 140737488351232 :=
  Go.Proofs.YtailojidffehnaaW.PrintWords.sized_ints hsz ht hd hu he hc hB h
end Go.Proofs.Ytailojidffehnaa.PrintWords
namespace Go.Proofs.Ytailojidffehnaa.Pure
open Go.RowKit Go.Proofs.Ytailojidffehnaa.PBucketRare Go.Proofs.YtailojidffehnaaW.PrintWords Go.Proofs.YtailojidffehnaaW.PrintLast

/-- One unit more: the count, and the units since. -/
def bkN (n s : Int) (w : Bool) : Int := if n > 0 then (if s + 1 ≥ 256 then (if w = true then n else n - 1) else (if w = true then n + 1 else n)) else (if w = true then n + 1 else n)
def bkS (n s : Int) (w : Bool) : Int := if n > 0 then (if s + 1 ≥ 256 then 0 else s + 1) else (if w = true then 0 else s)

theorem bk_unit (n s : Int) (w : Bool) (k : Nat) (h0 : 0 ≤ n) (h1 : n ≤ 1000000) (h2 : 0 ≤ s) (h3 : s ≤ 1000000) :
    bucket_Leak_Unit.f (k + 1) n s w = some (bkN n s w, bkS n s w, decide (bkN n s w ≥ 64)) := by
  have w1 : wrap64 (n + 1) = n + 1 := by unfold wrap64; omega
  have w2 : wrap64 (n - 1) = n - 1 := by unfold wrap64; omega
  have w3 : wrap64 (s + 1) = s + 1 := by unfold wrap64; omega
  have w4 : wrap64 (n - 1 + 1) = n := by unfold wrap64; omega
  unfold bucket_Leak_Unit.f
  simp only [bucket_Leak_Unit.j0, w1, w2, w3, w4]
  unfold bkN bkS
  by_cases a : n > 0
  · by_cases b : s + 1 ≥ 256
    · cases w <;> simp [a, b]
    · cases w
      · simp [a, b]
      · have : ¬ n = 0 := by omega
        simp [a, b, this]
  · obtain rfl : n = 0 := by omega
    cases w <;> simp

theorem bk_awake (k : Nat) (hk : 300 ≤ k) : signalmanlaw08_awake.f k = some true :=
  at_rounds signalmanlaw08_awake.mono hk (by decide +kernel)

theorem bk_rd' (xs : List Int) (hx : ∀ x ∈ xs, 0 ≤ x) (i : Int) : 0 ≤ rd xs i := by
  unfold rd
  by_cases h : i.toNat < xs.length
  · rw [List.getD_eq_getElem?_getD, List.getElem?_eq_getElem h]; exact hx _ (List.getElem_mem h)
  · rw [List.getD_eq_getElem?_getD, List.getElem?_eq_none (by omega)]; exact Int.le_refl 0

theorem bk_gap (xs : List Int) (i : Int) (h0 : 0 ≤ i) (h1 : i < xs.length) (h2 : i < 1000) (hr : 0 ≤ rd xs i)
    (hn : ∀ n s : Int, (n = 0 ∧ s = 0 ∨ n = 1 ∧ s = 255) → Ev (fun k => signalmanlaw08_BucketRare.l0 k xs (i + 1) n s) true) (d : Nat) :
    ∀ (j n s : Int), 0 ≤ j → (255 + rd xs i % 100 - j).toNat = d → (n = 1 ∧ s = j ∧ j ≤ 255 ∨ n = 0 ∧ s = 0 ∧ 256 ≤ j) → Ev (fun k => signalmanlaw08_BucketRare.l1 k xs i j n s) true := by
  have hm : wrap64 (255 + wrap64 (Int.tmod (rd xs i) 100)) = 255 + rd xs i % 100 := by
    rw [Int.tmod_eq_emod_of_nonneg hr]; unfold wrap64; omega
  have hw : wrap64 (i + 1) = i + 1 := by unfold wrap64; omega
  induction d with
  | zero =>
    intro j n s hj hd hinv
    refine Ev.step (f := fun k => signalmanlaw08_BucketRare.l0 k xs (i + 1) n s) (fun k => ?_) (hn n s (by omega))
    try dsimp only
    rw [signalmanlaw08_BucketRare.l1]
    rw [if_pos h0, if_pos h1, hm, if_neg (by omega), hw]
  | succ d ih =>
    intro j n s hj hd hinv
    have hwj : wrap64 (j + 1) = j + 1 := by unfold wrap64; omega
    have hnn : bkN n s false = (if j = 255 ∧ n = 1 then 0 else n) := by
      unfold bkN; simp only [Bool.false_eq_true, if_false]
      rcases hinv with ⟨rfl, rfl, h⟩ | ⟨rfl, rfl, h⟩
      · by_cases h5 : s = 255
        · subst h5; decide
        · rw [if_pos (by omega), if_neg (by omega), if_neg (by omega)]
      · rw [if_neg (by omega), if_neg (by omega)]
    have hss : bkS n s false = (if j = 255 ∧ n = 1 then 0 else if n = 1 then j + 1 else 0) := by
      unfold bkS; simp only [Bool.false_eq_true, if_false]
      rcases hinv with ⟨rfl, rfl, h⟩ | ⟨rfl, rfl, h⟩
      · by_cases h5 : s = 255
        · subst h5; decide
        · rw [if_pos (by omega), if_neg (by omega), if_neg (by omega), if_pos rfl]
      · rw [if_neg (by omega), if_neg (by omega), if_neg (by omega)]
    obtain ⟨K, hK⟩ := ih (j + 1) (bkN n s false) (bkS n s false) (by omega) (by omega) (by
      rw [hnn, hss]
      rcases hinv with ⟨rfl, rfl, h⟩ | ⟨rfl, rfl, h⟩
      · by_cases h5 : s = 255
        · subst h5; right; decide
        · left; rw [if_neg (by omega), if_neg (by omega), if_pos rfl]; omega
      · right; rw [if_neg (by omega), if_neg (by omega), if_neg (by omega)]; omega)
    refine ⟨K + 2, fun k hk => ?_⟩
    obtain ⟨k, rfl⟩ : ∃ m, k = m + 2 := ⟨k - 2, by omega⟩
    dsimp only at hK ⊢
    rw [signalmanlaw08_BucketRare.l1]
    rw [if_pos h0, if_pos h1, hm, if_pos (by omega), bk_unit n s false k (by omega) (by omega) (by omega) (by omega), hwj]
    simp only [Option.bind_some]
    rw [if_neg (by
      have : bkN n s false ≤ 1 := by rw [hnn]; split <;> omega
      simp; omega)]
    exact hK (k + 1) (by omega)

theorem bk_rare (xs : List Int) (hx : ∀ x ∈ xs, 0 ≤ x) (hl : xs.length ≤ 100) (d : Nat) : ∀ (i n s : Int), 0 ≤ i → ((xs.length : Int) - i).toNat = d → (n = 0 ∧ s = 0 ∨ n = 1 ∧ s = 255) →
    Ev (fun k => signalmanlaw08_BucketRare.l0 k xs i n s) true := by
  induction d with
  | zero =>
    intro i n s hi hd hinv
    refine ⟨1, fun k hk => ?_⟩
    obtain ⟨k, rfl⟩ : ∃ m, k = m + 1 := ⟨k - 1, by omega⟩
    try dsimp only
    rw [signalmanlaw08_BucketRare.l0]
    rw [if_neg (by omega)]
  | succ d ih =>
    intro i n s hi hd hinv
    have h1 : i < xs.length := by omega
    obtain ⟨K, hK⟩ := bk_gap xs i hi h1 (by omega) (bk_rd' xs hx i) (fun n s h => ih (i + 1) n s (by omega) (by omega) h) _ 0 1 0 (by omega) rfl (by omega)
    have hnn : bkN n s true = 1 := by rcases hinv with ⟨rfl, rfl⟩ | ⟨rfl, rfl⟩ <;> decide
    have hss : bkS n s true = 0 := by rcases hinv with ⟨rfl, rfl⟩ | ⟨rfl, rfl⟩ <;> decide
    refine ⟨K + 3, fun k hk => ?_⟩
    obtain ⟨k, rfl⟩ : ∃ m, k = m + 3 := ⟨k - 3, by omega⟩
    dsimp only at hK ⊢
    rw [signalmanlaw08_BucketRare.l0]
    rw [if_pos h1, bk_unit n s true (k + 1) (by omega) (by omega) (by omega) (by omega), hnn, hss]
    simp only [Option.bind_some]
    rw [if_neg (by decide)]
    rw [signalmanlaw08_BucketRare.j2]
    rw [if_neg (by decide)]
    exact hK (k + 1) (by omega)

theorem BucketRare : signalmanlaw08_BucketRare.Pure := by
  intro xs h1 h2 hx
  by_cases hl : xs.length ≤ 100
  · obtain ⟨K, hK⟩ := bk_rare xs (fun x h => (bounds_u16 (hx x h)).1) hl _ 0 0 0 (by omega) rfl (by omega)
    refine ⟨K + 301, ?_⟩
    unfold signalmanlaw08_BucketRare.f
    rw [bk_awake _ (by omega)]
    simp only [Option.bind_some, if_true]
    have hd : decide ((xs.length : Int) > 100) = false := by simp; omega
    rw [hd]
    rw [signalmanlaw08_BucketRare.j0]
    rw [if_neg (by decide)]
    exact hK (K + 300) (by omega)
  · refine ⟨301, ?_⟩
    unfold signalmanlaw08_BucketRare.f
    rw [bk_awake _ (by omega)]
    simp only [Option.bind_some, if_true]
    have hd : decide ((xs.length : Int) > 100) = true := by simp; omega
    rw [hd]
    rw [signalmanlaw08_BucketRare.j0]
    rw [if_pos rfl, bk_awake _ (by omega)]
    rfl

end Go.Proofs.Ytailojidffehnaa.Pure
