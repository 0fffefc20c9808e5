/-
  Any units, told by runs: the program, unit by unit and all at once, and the reference tell the same place at which a link fails; the count stays in its bounds.
-/
import Derived.Test.YtailojidffehnaaPBucketUnitsx3
import Derived.OpenShut
import Derived.Test.YtailojidffehnaaWSized
namespace Go.Proofs.Ytailojidffehnaa.PrintWords
open Go.ChangeShapes Go.WideShapes in
/-- The print's own lemma under the name that the printed row calls it by. -/
theorem sized_ints {H : Type} {enc : TypeId × Value → H} {P : Program} {W : World} {base : Nat} {spare : Nat → Bool} {held : Bool} {t e : TypeId} {k : IntKind} {a : Option Addr} {len cap : Nat} {d : DataW H} {ps : List MemPlace} {ts : List TypeId} {ds : List (DataW H)} {j : Nat}
    (hsz : (DataW.weightsEach P ts ds).all (· ≤ reachBytes) = true) (ht : ts[j]? = some t) (hd : ds[j]? = some d) (hu : P.underlying t = some (.slice e)) (he : P.underlying e = some (.int k)) (hc : P.cellsOf e = 1) {B : Nat} (hB : P.bytesOf e = B)
    (h : DataW.Trod enc P W base spare held t (.slice a len cap) d ps) : len * B ≤ 140737488351232 :=
  Go.Proofs.YtailojidffehnaaW.PrintWords.sized_ints hsz ht hd hu he hc hB h
end Go.Proofs.Ytailojidffehnaa.PrintWords
namespace Go.Proofs.Ytailojidffehnaa.Pure
open Go.RowKit Go.Proofs.Ytailojidffehnaa.PBucketUnits Go.Proofs.YtailojidffehnaaW.PrintWords Go.Proofs.YtailojidffehnaaW.PrintLast

/-- One unit more: the count, and the units since. -/
def bkN (n s : Int) (w : Bool) : Int := if n > 0 then (if s + 1 ≥ 256 then (if w = true then n else n - 1) else (if w = true then n + 1 else n)) else (if w = true then n + 1 else n)
def bkS (n s : Int) (w : Bool) : Int := if n > 0 then (if s + 1 ≥ 256 then 0 else s + 1) else (if w = true then 0 else s)

theorem bk_unit (n s : Int) (w : Bool) (k : Nat) (h0 : 0 ≤ n) (h1 : n ≤ 1000000) (h2 : 0 ≤ s) (h3 : s ≤ 1000000) :
    bucket_Leak_Unit.f (k + 1) n s w = some (bkN n s w, bkS n s w, decide (bkN n s w ≥ 64)) := by
  have w1 : wrap64 (n + 1) = n + 1 := by unfold wrap64; omega
  have w2 : wrap64 (n - 1) = n - 1 := by unfold wrap64; omega
  have w3 : wrap64 (s + 1) = s + 1 := by unfold wrap64; omega
  have w4 : wrap64 (n - 1 + 1) = n := by unfold wrap64; omega
  unfold bucket_Leak_Unit.f
  simp only [bucket_Leak_Unit.j0, w1, w2, w3, w4]
  unfold bkN bkS
  by_cases a : n > 0
  · by_cases b : s + 1 ≥ 256
    · cases w <;> simp [a, b]
    · cases w
      · simp [a, b]
      · have : ¬ n = 0 := by omega
        simp [a, b, this]
  · obtain rfl : n = 0 := by omega
    cases w <;> simp

theorem bk_awake (k : Nat) (hk : 300 ≤ k) : signalmanlaw08_awake.f k = some true :=
  at_rounds signalmanlaw08_awake.mono hk (by decide +kernel)

theorem bk_units_inner (xs : List Int) (i : Int) (B : Nat) (h0 : 0 ≤ i) (h1 : i < xs.length) (hr : 0 ≤ rd xs i) (hi : i < 1000) (d : Nat) : ∀ (j : Int) (acc : List Bool), 0 ≤ j → (rd xs i % 300 - j).toNat = d → acc.length + d ≤ 100000 →
    (∀ acc' : List Bool, acc'.length ≤ acc.length + d → ∃ l, Ev (fun k => signalmanlaw08_units.l0 k xs acc' (i + 1)) l ∧ l.length ≤ B) → ∃ l, Ev (fun k => signalmanlaw08_units.l1 k xs acc i j) l ∧ l.length ≤ B := by
  have hm : wrap64 (Int.tmod (rd xs i) 300) = rd xs i % 300 := by
    rw [Int.tmod_eq_emod_of_nonneg hr]; unfold wrap64; omega
  have hw : wrap64 (i + 1) = i + 1 := by unfold wrap64; omega
  induction d with
  | zero =>
    intro j acc hj hd ha hk
    obtain ⟨l, hl, hb⟩ := hk acc (by omega)
    refine ⟨l, Ev.step (f := fun k => signalmanlaw08_units.l0 k xs acc (i + 1)) (fun k => ?_) hl, hb⟩
    rw [signalmanlaw08_units.l1]
    rw [if_pos h0, if_pos h1, hm, if_neg (by omega), hw]
  | succ d ih =>
    intro j acc hj hd ha hk
    have hwj : wrap64 (j + 1) = j + 1 := by unfold wrap64; omega
    obtain ⟨l, hl, hb⟩ := ih (j + 1) (acc ++ [(Int.tmod i 2) == 0]) (by omega) (by omega) (by simp; omega) (fun acc' h' => hk acc' (by simp at h'; omega))
    refine ⟨l, Ev.step (f := fun k => signalmanlaw08_units.l1 k xs (acc ++ [(Int.tmod i 2) == 0]) i (j + 1)) (fun k => ?_) hl, hb⟩
    try dsimp only
    rw [signalmanlaw08_units.l1]
    rw [if_pos h0, if_pos h1, hm, if_pos (by omega), if_pos (by omega), hwj]

theorem bk_rd (xs : List Int) (hx : ∀ x ∈ xs, 0 ≤ x) (i : Int) : 0 ≤ rd xs i := by
  unfold rd
  by_cases h : i.toNat < xs.length
  · rw [List.getD_eq_getElem?_getD, List.getElem?_eq_getElem h]; exact hx _ (List.getElem_mem h)
  · rw [List.getD_eq_getElem?_getD, List.getElem?_eq_none (by omega)]; exact Int.le_refl 0

theorem bk_units_outer (xs : List Int) (hx : ∀ x ∈ xs, 0 ≤ x) (d : Nat) : ∀ (i : Int) (acc : List Bool), 0 ≤ i → i + d = 40 → acc.length ≤ (i * 300).toNat →
    ∃ l, Ev (fun k => signalmanlaw08_units.l0 k xs acc i) l ∧ l.length ≤ 12000 := by
  induction d with
  | zero =>
    intro i acc h0 hi ha
    refine ⟨acc, ⟨2, fun k hk => ?_⟩, by omega⟩
    obtain ⟨k, rfl⟩ : ∃ m, k = m + 2 := ⟨k - 2, by omega⟩
    have hdec : decide (i < 40) = false := by simp; omega
    simp only [signalmanlaw08_units.l0, signalmanlaw08_units.j1, hdec]
    split <;> simp
  | succ d ih =>
    intro i acc h0 hi ha
    by_cases hl : i < xs.length
    · obtain ⟨l, hl', hb⟩ := bk_units_inner xs i 12000 h0 hl (bk_rd xs hx i) (by omega) ((rd xs i % 300 - 0).toNat) 0 acc (by omega) rfl (by omega)
        (fun acc' h' => ih (i + 1) acc' (by omega) (by omega) (by omega))
      refine ⟨l, Ev.step (f := fun k => signalmanlaw08_units.j1 k xs acc i true) (fun k => ?_) (Ev.step (f := fun k => signalmanlaw08_units.l1 k xs acc i 0) (fun k => ?_) hl'), hb⟩
      · rw [signalmanlaw08_units.l0]
        rw [if_pos hl]; congr 1; simp; omega
      · simp only [signalmanlaw08_units.j1, if_true]
    · refine ⟨acc, ⟨2, fun k hk => ?_⟩, by omega⟩
      obtain ⟨k, rfl⟩ : ∃ m, k = m + 2 := ⟨k - 2, by omega⟩
      simp only [signalmanlaw08_units.l0, signalmanlaw08_units.j1]
      rw [if_neg hl]; simp

theorem bk_units (xs : List Int) (hx : ∀ x ∈ xs, (Lit.int .u16 x).wf = true) : ∃ l, Ev (fun k => signalmanlaw08_units.f k xs) l ∧ l.length ≤ 12000 := by
  obtain ⟨l, h, hb⟩ := bk_units_outer xs (fun x h => (bounds_u16 (hx x h)).1) 40 0 [] (by omega) (by omega) (by simp)
  exact ⟨l, h, hb⟩

/-- At which place, from the i-th on, the link fails; below 0: it doesn't. -/
def bkAt : List Bool → Int → Int → Int → Int
  | [], _, _, _ => -1
  | b :: l, i, n, s => if bkN n s b ≥ 64 then i else bkAt l (i + 1) (bkN n s b) (bkS n s b)

theorem bk_bounds (n s : Int) (b : Bool) (hn : 0 ≤ n) (hn2 : n < 64) (hs : 0 ≤ s) (hs2 : s < 256) : 0 ≤ bkN n s b ∧ bkN n s b ≤ 64 ∧ 0 ≤ bkS n s b ∧ bkS n s b < 256 := by
  unfold bkN bkS
  cases b <;> simp <;> split <;> (try split) <;> omega

theorem bk_drop (l : List Bool) (i : Int) (h0 : 0 ≤ i) (h1 : i < l.length) : l.drop i.toNat = rdOf false l i :: l.drop (i.toNat + 1) := by
  rw [List.drop_eq_getElem_cons (by omega)]
  congr 1
  unfold rdOf
  rw [List.getD_eq_getElem?_getD, List.getElem?_eq_getElem (by omega)]
  rfl

theorem bk_prog (l : List Bool) (hl : l.length ≤ 12000) (d : Nat) : ∀ (k : Nat) (i n s : Int), 0 ≤ i → ((l.length : Int) - i).toNat = d → d + 3 < k → 0 ≤ n → n < 64 → 0 ≤ s → s < 256 →
    bucket_Units.l0 k l l.length i n s = some (bkAt (l.drop i.toNat) i n s) := by
  induction d with
  | zero =>
    intro k i n s hi hd hk hn hn2 hs hs2
    obtain ⟨k, rfl⟩ : ∃ m, k = m + 1 := ⟨k - 1, by omega⟩
    rw [bucket_Units.l0]
    rw [if_neg (by omega), List.drop_eq_nil_of_le (by omega)]
    rfl
  | succ d ih =>
    intro k i n s hi hd hk hn hn2 hs hs2
    obtain ⟨k, rfl⟩ : ∃ m, k = m + 2 := ⟨k - 2, by omega⟩
    have hw : wrap64 (i + 1) = i + 1 := by unfold wrap64; omega
    obtain ⟨b1, b2, b3, b4⟩ := bk_bounds n s (rdOf false l i) hn hn2 hs hs2
    rw [bucket_Units.l0]
    rw [if_pos (by omega), if_pos hi, if_pos (by omega), bk_unit n s _ k (by omega) (by omega) (by omega) (by omega), hw, bk_drop l i hi (by omega)]
    simp only [Option.bind_some, bkAt]
    by_cases hbad : bkN n s (rdOf false l i) ≥ 64
    · rw [if_pos (by simpa using hbad), if_pos hbad]
    · rw [if_neg (by simpa using hbad), if_neg hbad, ih (k + 1) (i + 1) _ _ (by omega) (by omega) (by omega) (by omega) (by omega) (by omega) (by omega)]
      rw [show (i + 1).toNat = i.toNat + 1 from by omega]

theorem bk_ref (l : List Bool) (hl : l.length ≤ 12000) (d : Nat) : ∀ (k : Nat) (i n s left : Int), 0 ≤ i → ((l.length : Int) - i).toNat = d → 2 * d + 3 < k → 0 ≤ n → n < 64 → 0 ≤ s → s < 256 → (n = 0 ∨ left = 256 - s) →
    signalmanref06_Fails.l0 k l n left i = some (bkAt (l.drop i.toNat) i n s) := by
  induction d with
  | zero =>
    intro k i n s left hi hd hk hn hn2 hs hs2 hinv
    obtain ⟨k, rfl⟩ : ∃ m, k = m + 1 := ⟨k - 1, by omega⟩
    rw [signalmanref06_Fails.l0]
    rw [if_neg (by omega), List.drop_eq_nil_of_le (by omega)]
    rfl
  | succ d ih =>
    intro k i n s left hi hd hk hn hn2 hs hs2 hinv
    obtain ⟨k, rfl⟩ : ∃ m, k = m + 2 := ⟨k - 2, by omega⟩
    have hw : wrap64 (i + 1) = i + 1 := by unfold wrap64; omega
    have hn1 : wrap64 (n + 1) = n + 1 := by unfold wrap64; omega
    have hnm : wrap64 (n - 1) = n - 1 := by unfold wrap64; omega
    have hnn : wrap64 (n - 1 + 1) = n := by unfold wrap64; omega
    obtain ⟨b1, b2, b3, b4⟩ := bk_bounds n s (rdOf false l i) hn hn2 hs hs2
    rw [bk_drop l i hi (by omega)]
    simp only [bkAt]
    have hnext : ¬ bkN n s (rdOf false l i) ≥ 64 → ∀ left', (bkN n s (rdOf false l i) = 0 ∨ left' = 256 - bkS n s (rdOf false l i)) →
        signalmanref06_Fails.l0 k l (bkN n s (rdOf false l i)) left' (i + 1) = some (bkAt (l.drop (i.toNat + 1)) (i + 1) (bkN n s (rdOf false l i)) (bkS n s (rdOf false l i))) := by
      intro hbad left' h'
      rw [ih k (i + 1) _ (bkS n s (rdOf false l i)) left' (by omega) (by omega) (by omega) (by omega) (by omega) (by omega) (by omega) h', show (i + 1).toNat = i.toNat + 1 from by omega]
    generalize hb : rdOf false l i = b at *
    simp only [signalmanref06_Fails.l0, signalmanref06_Fails.j1, hw, hn1, hnm, hnn, hb]
    rw [if_pos (by omega)]
    simp only [if_pos hi, if_pos (show i < (l.length : Int) by omega)]
    by_cases hpos : n > 0
    · rw [if_pos hpos]
      have hleft : left = 256 - s := by omega
      have hwl : wrap64 (left - 1) = 255 - s := by unfold wrap64; omega
      rw [hwl]
      by_cases hz : 255 - s = 0
      · rw [if_pos hz]
        cases b
        · have e1 : bkN n s false = n - 1 := by unfold bkN; rw [if_pos hpos, if_pos (by omega)]; rfl
          have e2 : bkS n s false = 0 := by unfold bkS; rw [if_pos hpos, if_pos (by omega)]
          rw [e1, e2] at hnext ⊢
          rw [if_neg (by decide), if_neg (by omega), if_neg (by omega)]
          exact hnext (by omega) 256 (by omega)
        · have e1 : bkN n s true = n := by unfold bkN; rw [if_pos hpos, if_pos (by omega)]; rfl
          have e2 : bkS n s true = 0 := by unfold bkS; rw [if_pos hpos, if_pos (by omega)]
          rw [e1, e2] at hnext ⊢
          rw [if_pos rfl]
          by_cases h1 : n - 1 = 0
          · rw [if_pos h1, if_neg (by omega), if_neg (by omega)]; exact hnext (by omega) 256 (by omega)
          · rw [if_neg h1, if_neg (by omega), if_neg (by omega)]; exact hnext (by omega) 256 (by omega)
      · rw [if_neg hz]
        cases b
        · have e1 : bkN n s false = n := by unfold bkN; rw [if_pos hpos, if_neg (by omega)]; rfl
          have e2 : bkS n s false = s + 1 := by unfold bkS; rw [if_pos hpos, if_neg (by omega)]
          rw [e1, e2] at hnext ⊢
          rw [if_neg (by decide), if_neg (by omega), if_neg (by omega)]
          exact hnext (by omega) _ (by omega)
        · have e1 : bkN n s true = n + 1 := by unfold bkN; rw [if_pos hpos, if_neg (by omega)]; rfl
          have e2 : bkS n s true = s + 1 := by unfold bkS; rw [if_pos hpos, if_neg (by omega)]
          rw [e1, e2] at hnext ⊢
          rw [if_pos rfl, if_neg (by omega)]
          by_cases h1 : n + 1 ≥ 64
          · rw [if_pos h1, if_pos h1]
          · rw [if_neg h1, if_neg h1]; exact hnext (by omega) _ (by omega)
    · rw [if_neg hpos]
      obtain rfl : n = 0 := by omega
      cases b
      · have e1 : bkN 0 s false = 0 := by unfold bkN; simp
        have e2 : bkS 0 s false = s := by unfold bkS; simp
        rw [e1, e2] at hnext ⊢
        rw [if_neg (by decide), if_neg (by omega), if_neg (by omega)]
        exact hnext (by omega) _ (by omega)
      · have e1 : bkN 0 s true = 1 := by unfold bkN; simp
        have e2 : bkS 0 s true = 0 := by unfold bkS; simp
        rw [e1, e2] at hnext ⊢
        rw [if_pos rfl, if_pos rfl, if_neg (by omega), if_neg (by omega)]
        exact hnext (by omega) _ (by omega)

theorem bk_units_same (l : List Bool) (hl : l.length ≤ 12000) (k : Nat) (hk : 30000 < k) : bucket_Units.f k l = some (bkAt l 0 0 0) ∧ signalmanref06_Fails.f k l = some (bkAt l 0 0 0) := by
  constructor
  · unfold bucket_Units.f
    rw [bk_prog l hl _ k 0 0 0 (by omega) rfl (by omega) (by omega) (by omega) (by omega) (by omega)]; rfl
  · unfold signalmanref06_Fails.f
    rw [bk_ref l hl _ k 0 0 0 0 (by omega) rfl (by omega) (by omega) (by omega) (by omega) (by omega) (by omega)]; rfl

theorem bk_law (l : List Bool) (hl : l.length ≤ 12000) (d : Nat) : ∀ (k : Nat) (i n s : Int), 0 ≤ i → ((l.length : Int) - i).toNat = d → 3 * d + 30010 < k → 0 ≤ n → n < 64 → 0 ≤ s → s < 256 →
    bkAt l 0 0 0 = bkAt (l.drop i.toNat) i n s → signalmanlaw08_BucketUnits.l0 k l (-1) i n s = some true := by
  induction d with
  | zero =>
    intro k i n s hi hd hk hn hn2 hs hs2 hat
    obtain ⟨k, rfl⟩ : ∃ m, k = m + 2 := ⟨k - 2, by omega⟩
    obtain ⟨e1, e2⟩ := bk_units_same l hl k (by omega)
    rw [List.drop_eq_nil_of_le (by omega)] at hat
    rw [signalmanlaw08_BucketUnits.l0]
    rw [if_neg (by omega)]
    rw [signalmanlaw08_BucketUnits.j1]
    rw [if_neg (by decide), e1, e2, hat]
    rfl
  | succ d ih =>
    intro k i n s hi hd hk hn hn2 hs hs2 hat
    obtain ⟨k, rfl⟩ : ∃ m, k = m + 3 := ⟨k - 3, by omega⟩
    have hw : wrap64 (i + 1) = i + 1 := by unfold wrap64; omega
    obtain ⟨b1, b2, b3, b4⟩ := bk_bounds n s (rdOf false l i) hn hn2 hs hs2
    rw [bk_drop l i hi (by omega)] at hat
    simp only [bkAt] at hat
    rw [signalmanlaw08_BucketUnits.l0]
    rw [if_pos (by omega)]
    rw [signalmanlaw08_BucketUnits.j1]
    rw [if_pos (by decide), if_pos hi, if_pos (by omega), bk_unit n s _ k (by omega) (by omega) (by omega) (by omega)]
    simp only [Option.bind_some]
    rw [if_neg (by simp), if_neg (by omega), if_neg (by omega), decide_eq_false (show ¬ bkS n s (rdOf false l i) ≥ 256 by omega)]
    rw [signalmanlaw08_BucketUnits.j2]
    rw [if_neg (by decide), hw]
    by_cases hbad : bkN n s (rdOf false l i) ≥ 64
    · rw [if_pos (by simpa using hbad)]
      rw [if_pos hbad] at hat
      obtain ⟨k, rfl⟩ : ∃ m, k = m + 2 := ⟨k - 2, by omega⟩
      obtain ⟨e1, e2⟩ := bk_units_same l hl (k) (by omega)
      simp only [signalmanlaw08_BucketUnits.l0, decide_eq_false (show ¬ i < 0 by omega), ite_self]
      rw [signalmanlaw08_BucketUnits.j1]
      obtain ⟨e1, e2⟩ := bk_units_same l hl (k + 0) (by omega)
      rw [if_neg (by decide), show k = k + 0 from rfl, e1, e2, hat]
      simp
    · rw [if_neg (by simpa using hbad)]
      rw [if_neg hbad] at hat
      exact ih k (i + 1) _ _ (by omega) (by omega) (by omega) (by omega) (by omega) (by omega) (by omega) (by rw [hat, show (i + 1).toNat = i.toNat + 1 from by omega])

theorem BucketUnits : signalmanlaw08_BucketUnits.Pure := by
  intro xs h1 h2 hx
  obtain ⟨l, ⟨K, hK⟩, hl⟩ := bk_units xs hx
  refine ⟨K + 100000, ?_⟩
  unfold signalmanlaw08_BucketUnits.f
  rw [bk_awake _ (by omega)]
  simp only [Option.bind_some, if_true]
  dsimp only at hK
  rw [hK (K + 100000) (by omega)]
  simp only [Option.bind_some]
  exact bk_law l hl _ _ 0 0 0 (by omega) rfl (by omega) (by omega) (by omega) (by omega) (by omega) rfl

end Go.Proofs.Ytailojidffehnaa.Pure
