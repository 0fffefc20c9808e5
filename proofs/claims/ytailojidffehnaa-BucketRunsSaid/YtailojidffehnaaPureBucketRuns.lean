/-
  Whatever units came ahead, 64 that are wrong one behind the other end the link.
-/
import Derived.Test.YtailojidffehnaaPBucketRunsx3
import Derived.OpenShut
import Derived.Test.YtailojidffehnaaWSized
namespace Go.Proofs.Ytailojidffehnaa.PrintWords
open Go.ChangeShapes Go.WideShapes in
/-- The print's own lemma under the name that the printed row calls it by. -/
theorem sized_ints {H : Type} {enc : TypeId × Value → H} {P : Program} {W : World} {base : Nat} {spare : Nat → Bool} {held : Bool} {t e : TypeId} {k : IntKind} {a : Option Addr} {len cap : Nat} {d : DataW H} {ps : List MemPlace} {ts : List TypeId} {ds : List (DataW H)} {j : Nat}
    (hsz : (DataW.weightsEach P ts ds).all (· ≤ reachBytes) = true) (ht : ts[j]? = some t) (hd : ds[j]? = some d) (hu : P.underlying t = some (.slice e)) (he : P.underlying e = some (.int k)) (hc : P.cellsOf e = 1) {B : Nat} (hB : P.bytesOf e = B)
    (h : DataW.Trod enc P W base spare held t (.slice a len cap) d ps) : len * B ≤ 140737488351232 :=
  Go.Proofs.YtailojidffehnaaW.PrintWords.sized_ints hsz ht hd hu he hc hB h
end Go.Proofs.Ytailojidffehnaa.PrintWords
namespace Go.Proofs.Ytailojidffehnaa.Pure
open Go.RowKit Go.Proofs.Ytailojidffehnaa.PBucketRuns Go.Proofs.YtailojidffehnaaW.PrintWords Go.Proofs.YtailojidffehnaaW.PrintLast

/-- One unit more: the count, and the units since. -/
def bkN (n s : Int) (w : Bool) : Int := if n > 0 then (if s + 1 ≥ 256 then (if w = true then n else n - 1) else (if w = true then n + 1 else n)) else (if w = true then n + 1 else n)
def bkS (n s : Int) (w : Bool) : Int := if n > 0 then (if s + 1 ≥ 256 then 0 else s + 1) else (if w = true then 0 else s)

theorem bk_unit (n s : Int) (w : Bool) (k : Nat) (h0 : 0 ≤ n) (h1 : n ≤ 1000000) (h2 : 0 ≤ s) (h3 : s ≤ 1000000) :
    bucket_Leak_Unit.f (k + 1) n s w = some (bkN n s w, bkS n s w, decide (bkN n s w ≥ 64)) := by
  have w1 : wrap64 (n + 1) = n + 1 := by unfold wrap64; omega
  have w2 : wrap64 (n - 1) = n - 1 := by unfold wrap64; omega
  have w3 : wrap64 (s + 1) = s + 1 := by unfold wrap64; omega
  have w4 : wrap64 (n - 1 + 1) = n := by unfold wrap64; omega
  unfold bucket_Leak_Unit.f
  simp only [bucket_Leak_Unit.j0, w1, w2, w3, w4]
  unfold bkN bkS
  by_cases a : n > 0
  · by_cases b : s + 1 ≥ 256
    · cases w <;> simp [a, b]
    · cases w
      · simp [a, b]
      · have : ¬ n = 0 := by omega
        simp [a, b, this]
  · obtain rfl : n = 0 := by omega
    cases w <;> simp

theorem bk_awake (k : Nat) (hk : 300 ≤ k) : signalmanlaw08_awake.f k = some true :=
  at_rounds signalmanlaw08_awake.mono hk (by decide +kernel)

theorem bk_units_inner (xs : List Int) (i : Int) (B : Nat) (h0 : 0 ≤ i) (h1 : i < xs.length) (hr : 0 ≤ rd xs i) (hi : i < 1000) (d : Nat) : ∀ (j : Int) (acc : List Bool), 0 ≤ j → (rd xs i % 300 - j).toNat = d → acc.length + d ≤ 100000 →
    (∀ acc' : List Bool, acc'.length ≤ acc.length + d → ∃ l, Ev (fun k => signalmanlaw08_units.l0 k xs acc' (i + 1)) l ∧ l.length ≤ B) → ∃ l, Ev (fun k => signalmanlaw08_units.l1 k xs acc i j) l ∧ l.length ≤ B := by
  have hm : wrap64 (Int.tmod (rd xs i) 300) = rd xs i % 300 := by
    rw [Int.tmod_eq_emod_of_nonneg hr]; unfold wrap64; omega
  have hw : wrap64 (i + 1) = i + 1 := by unfold wrap64; omega
  induction d with
  | zero =>
    intro j acc hj hd ha hk
    obtain ⟨l, hl, hb⟩ := hk acc (by omega)
    refine ⟨l, Ev.step (f := fun k => signalmanlaw08_units.l0 k xs acc (i + 1)) (fun k => ?_) hl, hb⟩
    rw [signalmanlaw08_units.l1]
    rw [if_pos h0, if_pos h1, hm, if_neg (by omega), hw]
  | succ d ih =>
    intro j acc hj hd ha hk
    have hwj : wrap64 (j + 1) = j + 1 := by unfold wrap64; omega
    obtain ⟨l, hl, hb⟩ := ih (j + 1) (acc ++ [(Int.tmod i 2) == 0]) (by omega) (by omega) (by simp; omega) (fun acc' h' => hk acc' (by simp at h'; omega))
    refine ⟨l, Ev.step (f := fun k => signalmanlaw08_units.l1 k xs (acc ++ [(Int.tmod i 2) == 0]) i (j + 1)) (fun k => ?_) hl, hb⟩
    try dsimp only
    rw [signalmanlaw08_units.l1]
    rw [if_pos h0, if_pos h1, hm, if_pos (by omega), if_pos (by omega), hwj]

theorem bk_rd (xs : List Int) (hx : ∀ x ∈ xs, 0 ≤ x) (i : Int) : 0 ≤ rd xs i := by
  unfold rd
  by_cases h : i.toNat < xs.length
  · rw [List.getD_eq_getElem?_getD, List.getElem?_eq_getElem h]; exact hx _ (List.getElem_mem h)
  · rw [List.getD_eq_getElem?_getD, List.getElem?_eq_none (by omega)]; exact Int.le_refl 0

theorem bk_units_outer (xs : List Int) (hx : ∀ x ∈ xs, 0 ≤ x) (d : Nat) : ∀ (i : Int) (acc : List Bool), 0 ≤ i → i + d = 40 → acc.length ≤ (i * 300).toNat →
    ∃ l, Ev (fun k => signalmanlaw08_units.l0 k xs acc i) l ∧ l.length ≤ 12000 := by
  induction d with
  | zero =>
    intro i acc h0 hi ha
    refine ⟨acc, ⟨2, fun k hk => ?_⟩, by omega⟩
    obtain ⟨k, rfl⟩ : ∃ m, k = m + 2 := ⟨k - 2, by omega⟩
    have hdec : decide (i < 40) = false := by simp; omega
    simp only [signalmanlaw08_units.l0, signalmanlaw08_units.j1, hdec]
    split <;> simp
  | succ d ih =>
    intro i acc h0 hi ha
    by_cases hl : i < xs.length
    · obtain ⟨l, hl', hb⟩ := bk_units_inner xs i 12000 h0 hl (bk_rd xs hx i) (by omega) ((rd xs i % 300 - 0).toNat) 0 acc (by omega) rfl (by omega)
        (fun acc' h' => ih (i + 1) acc' (by omega) (by omega) (by omega))
      refine ⟨l, Ev.step (f := fun k => signalmanlaw08_units.j1 k xs acc i true) (fun k => ?_) (Ev.step (f := fun k => signalmanlaw08_units.l1 k xs acc i 0) (fun k => ?_) hl'), hb⟩
      · rw [signalmanlaw08_units.l0]
        rw [if_pos hl]; congr 1; simp; omega
      · simp only [signalmanlaw08_units.j1, if_true]
    · refine ⟨acc, ⟨2, fun k hk => ?_⟩, by omega⟩
      obtain ⟨k, rfl⟩ : ∃ m, k = m + 2 := ⟨k - 2, by omega⟩
      simp only [signalmanlaw08_units.l0, signalmanlaw08_units.j1]
      rw [if_neg hl]; simp

theorem bk_units (xs : List Int) (hx : ∀ x ∈ xs, (Lit.int .u16 x).wf = true) : ∃ l, Ev (fun k => signalmanlaw08_units.f k xs) l ∧ l.length ≤ 12000 := by
  obtain ⟨l, h, hb⟩ := bk_units_outer xs (fun x h => (bounds_u16 (hx x h)).1) 40 0 [] (by omega) (by omega) (by simp)
  exact ⟨l, h, hb⟩

theorem bk_run (d : Nat) : ∀ (k : Nat) (j n s : Int), 0 ≤ j → (64 - j).toNat = d → d + 3 < k → 0 ≤ n → n < 64 → 0 ≤ s → s < 256 → (j + 1 ≤ n ∨ j ≤ n ∧ (s ≤ j ∨ n = 0)) →
    signalmanlaw08_BucketRuns.l1 k false j n s = some true := by
  induction d with
  | zero => intro k j n s hj hd hk hn hn2 hs hs2 hinv; omega
  | succ d ih =>
    intro k j n s hj hd hk hn hn2 hs hs2 hinv
    obtain ⟨k, rfl⟩ : ∃ m, k = m + 2 := ⟨k - 2, by omega⟩
    have hw : wrap64 (j + 1) = j + 1 := by unfold wrap64; omega
    rw [signalmanlaw08_BucketRuns.l1]
    rw [if_pos (by omega), if_neg (by decide), bk_unit n s true k (by omega) (by omega) (by omega) (by omega), hw]
    simp only [Option.bind_some]
    have hb : bkN n s true = (if n > 0 then (if s + 1 ≥ 256 then n else n + 1) else n + 1) := by unfold bkN; simp
    have hc : bkS n s true = (if n > 0 then (if s + 1 ≥ 256 then 0 else s + 1) else 0) := by unfold bkS; simp
    by_cases hbad : bkN n s true ≥ 64
    · rw [decide_eq_true hbad]
      obtain ⟨k, rfl⟩ : ∃ m, k = m + 1 := ⟨k - 1, by omega⟩
      rw [signalmanlaw08_BucketRuns.l1]
      split <;> simp
    · rw [decide_eq_false hbad]
      have hne : ¬ j + 1 = 64 ∨ True := .inr trivial
      apply ih (k + 1) (j + 1)
      all_goals rw [hb] at hbad
      all_goals (try rw [hb])
      all_goals (try rw [hc])
      all_goals first
        | omega
        | (split at hbad <;> rename_i h1 <;> (try rw [if_pos h1]) <;> (try rw [if_neg h1]) <;> first | omega | (split at hbad <;> rename_i h2 <;> (try simp only [if_pos h2]) <;> (try simp only [if_neg h2]) <;> omega))
        | (split <;> first | omega | (split <;> omega))

theorem bk_runs (l : List Bool) (hl : l.length ≤ 12000) (d : Nat) : ∀ (k : Nat) (i n s : Int), 0 ≤ i → ((l.length : Int) - i).toNat = d → d + 100 < k → 0 ≤ n → n < 64 → 0 ≤ s → s < 256 →
    signalmanlaw08_BucketRuns.l0 k l i n s = some true := by
  induction d with
  | zero =>
    intro k i n s hi hd hk hn hn2 hs hs2
    obtain ⟨k, rfl⟩ : ∃ m, k = m + 1 := ⟨k - 1, by omega⟩
    rw [signalmanlaw08_BucketRuns.l0]
    rw [if_neg (by omega)]
    exact bk_run 64 k 0 n s (by omega) (by omega) (by omega) hn hn2 hs hs2 (by omega)
  | succ d ih =>
    intro k i n s hi hd hk hn hn2 hs hs2
    obtain ⟨k, rfl⟩ : ∃ m, k = m + 2 := ⟨k - 2, by omega⟩
    have hw : wrap64 (i + 1) = i + 1 := by unfold wrap64; omega
    rw [signalmanlaw08_BucketRuns.l0]
    rw [if_pos (by omega), if_pos hi, bk_unit n s _ k (by omega) (by omega) (by omega) (by omega), hw]
    simp only [Option.bind_some]
    generalize rdOf false l i = b
    by_cases hbad : bkN n s b ≥ 64
    · rw [if_pos (by simpa using hbad)]
    · rw [if_neg (by simpa using hbad)]
      apply ih (k + 1) (i + 1)
      all_goals first
        | omega
        | (unfold bkN; cases b <;> simp <;> split <;> (try split) <;> omega)
        | (unfold bkS; cases b <;> simp <;> split <;> (try split) <;> omega)

theorem BucketRuns : signalmanlaw08_BucketRuns.Pure := by
  intro xs h1 h2 hx
  obtain ⟨l, ⟨K, hK⟩, hl⟩ := bk_units xs hx
  refine ⟨K + 13000, ?_⟩
  unfold signalmanlaw08_BucketRuns.f
  rw [bk_awake _ (by omega)]
  simp only [Option.bind_some, if_true]
  dsimp only at hK
  rw [hK (K + 13000) (by omega)]
  simp only [Option.bind_some]
  exact bk_runs l hl _ _ 0 0 0 (by omega) rfl (by omega) (by omega) (by omega) (by omega) (by omega)

end Go.Proofs.Ytailojidffehnaa.Pure
