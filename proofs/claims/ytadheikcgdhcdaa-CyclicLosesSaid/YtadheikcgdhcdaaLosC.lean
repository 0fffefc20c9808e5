/-
  Two cyclic ways on a line that loses: what each call of a round does to the plain state.
-/
import Derived.Test.YtadheikcgdhcdaaTwoC
import Derived.Test.YtadheikcgdhcdaaWLC
import Derived.Test.YtadheikcgdhcdaaLosB
namespace Go.Proofs.Ytadheikcgdhcdaa
open Go.RowKit
set_option linter.unusedVariables false
set_option linter.unusedSimpArgs false

def aC (z : CLt) : CSt := { n1 := 8, n2 := 300, last := 127, pl := z.pl, force := z.force, q0 := false, q1 := false, f := z.p, ss := mrow z.p (z.q - z.p), ns := mrow z.q (z.P - z.q) }
def bC (z : CLt) : CSt := { n1 := 8, n2 := 300, last := (127 + (z.r : Int)) % 128, pl := 0, force := false, q0 := false, q1 := false, f := 0, ss := [], ns := [] }
def LC (W w : World) (ba ha bb hb : Nat) (z : CLt) : Prop := TC W w ba ha bb hb 16 600 (aC z) (bC z)
theorem Iv.kpc {w w' : World} {m : Bool} {g : Nat} {iv : Value} (h : Iv w m g iv) (k : KpC w w') : Iv w' m g iv := by
  refine ⟨h.1, fun hm => ?_⟩
  obtain ⟨g8, c8, cs8, e, hB, hc⟩ := h.2 hm
  exact ⟨g8, c8, cs8, e, k.2 _ _ 5 (by decide) (by decide) (by decide) hB, hc⟩
theorem LC.below {W w w' : World} {ba ha bb hb : Nat} {z : CLt} (k : LC W w ba ha bb hb z) (h : Below w.heap.size w w') : LC W w' ba ha bb hb z := TC.below k h
theorem LC.hold {W w : World} {ba ha bb hb : Nat} {z : CLt} (k : LC W w ba ha bb hb z) : Calls Try.prog 47 #[.pointer (some ⟨ba, 0, none⟩)] w fun e w' => e = .returned (.pointer (some ⟨ha, 0, none⟩)) ∧ w' = w := TC.hold k
theorem LC.put {W w : World} {ba ha bb hb : Nat} {z : CLt} {N : Nat} (k : LC W w ba ha bb hb z) (hi : CLInv N z) (hP : z.P < N) (v : Value) (hv : Oct w v (msg3 z.P)) :
    Calls Try.prog 21 #[.pointer (some ⟨ha, 0, none⟩), v] w fun e w' => e = .returned (.int .i64 (if z.P < z.p + 16 then 0 else 3)) ∧ LC W w' ba ha bb hb (cput N z) ∧ KpC w w' := by
  obtain ⟨h1, h2, h3, h4, h5, h6, h7⟩ := hi
  have hc : putCode 16 600 (aC z).ss (aC z).ns (msg3 z.P).length = if z.P < z.p + 16 then 0 else 3 := by
    have hl : (msg3 z.P).length = 3 := rfl
    show putCode 16 600 (mrow z.p (z.q - z.p)) (mrow z.q (z.P - z.q)) _ = _
    unfold putCode
    rw [hl, mrow_len, mrow_len, mrow_octs, mrow_octs]
    by_cases h : z.P < z.p + 16
    · rw [if_neg (by decide), if_neg (by decide), if_neg (by omega), if_pos h]
    · rw [if_neg (by decide), if_neg (by decide), if_pos (by omega), if_neg h]
  refine (TC.put k v (msg3 z.P) hv (by decide)).mono ?_
  rintro e w' ⟨rfl, k', kp⟩
  refine ⟨by rw [hc], ?_, kp⟩
  rw [hc] at k'
  by_cases h : z.P < z.p + 16
  · rw [if_pos (by rw [if_pos h])] at k'
    refine TC.to k' ?_ ?_
    · unfold cput
      rw [if_pos ⟨hP, h⟩]
      have e1 : mrow z.q (z.P - z.q) ++ [msg3 z.P] = mrow z.q (z.P + 1 - z.q) := by
        have := mrow_snoc z.q (z.P - z.q)
        rw [show z.q + (z.P - z.q) = z.P from by omega, show z.P - z.q + 1 = z.P + 1 - z.q from by omega] at this
        exact this
      simp only [aC, e1]
    · unfold cput
      rw [if_pos ⟨hP, h⟩]
      rfl
  · rw [if_neg (by rw [if_neg h]; decide)] at k'
    unfold cput
    rw [if_neg (fun hh => h hh.2)]
    exact k'
theorem fits_aC {N : Nat} {z : CLt} (hi : CLInv N z) (h : z.q < z.P) : fitsB (aC z) = (decide (z.q = z.p) || decide (z.q - z.p < 8)) := by
  obtain ⟨h1, h2, h3, h4, h5, h6, h7⟩ := hi
  have e1 : (aC z).ns = msg3 z.q :: mrow (z.q + 1) (z.P - z.q - 1) := by
    show mrow z.q (z.P - z.q) = _
    rw [← mrow_cons, show z.P - z.q - 1 + 1 = z.P - z.q from by omega]
  have e2 : size1 (aC z).ns = 3 := by rw [e1]; rfl
  have e3 : octs (aC z).ss = 3 * ((z.q - z.p : Nat) : Int) := mrow_octs _ _
  have e4 : (aC z).ss.length = z.q - z.p := mrow_len _ _
  unfold fitsB
  rw [e2, e3, e4]
  show (decide (z.q - z.p = 0) || (decide (((z.q - z.p : Nat) : Int) < 8) && decide (3 * ((z.q - z.p : Nat) : Int) + 3 ≤ 300))) = _
  by_cases c1 : z.q = z.p
  · simp [c1]
  · by_cases c2 : z.q - z.p < 8
    · have a1 : ((z.q - z.p : Nat) : Int) < 8 := by omega
      have a2 : 3 * ((z.q - z.p : Nat) : Int) + 3 ≤ 300 := by omega
      rw [decide_eq_true a1, decide_eq_true a2, decide_eq_true c2]
      simp
    · have a1 : ¬ ((z.q - z.p : Nat) : Int) < 8 := by omega
      have a3 : ¬ (z.q - z.p = 0) := by omega
      rw [decide_eq_false a1, decide_eq_false c2, decide_eq_false a3, decide_eq_false c1]
      rfl
theorem over_aC {N : Nat} {z : CLt} (hi : CLInv N z) (hne : z.q ≠ z.p) : (decide (0 < (aC z).ns.length) && !fitsB (aC z)) = cover z := by
  have e4 : (aC z).ns.length = z.P - z.q := mrow_len _ _
  unfold cover
  by_cases h : z.q < z.P
  · rw [fits_aC hi h, e4, decide_eq_false hne, decide_eq_true h, decide_eq_true (show 0 < z.P - z.q by omega)]
    by_cases c2 : z.q - z.p < 8
    · rw [decide_eq_true c2, decide_eq_false (show ¬ 8 ≤ z.q - z.p by omega)]; rfl
    · rw [decide_eq_false c2, decide_eq_true (show 8 ≤ z.q - z.p by omega)]; rfl
  · rw [e4, decide_eq_false h, decide_eq_false (show ¬ 0 < z.P - z.q by omega)]; rfl
theorem LC.nextA {W w : World} {ba ha bb hb : Nat} {z : CLt} {N : Nat} (k : LC W w ba ha bb hb z) (hi : CLInv N z) :
    Calls Try.prog 48 #[.pointer (some ⟨ba, 0, none⟩)] w fun e w' => ∃ (x : Nat) (iv : Value), e = .returned (.agg #[.int .u8 127, .int .u8 x, .bool true, .bool true, .int .u8 (if cnextM z = true then 2 else 0), .int .u8 0, .bool false, iv]) ∧ x ≤ 127 ∧ ((x : Int) = if cnextM z = true then (cnextX z : Int) else (127 + (cnextX z : Int)) % 128) ∧ Iv w' (cnextM z) (cnextX z) iv ∧ LC W w' ba ha bb hb (cnext z) ∧ KpC w w' := by
  have hi0 := hi
  obtain ⟨h1, h2, h3, h4, h5, h6, h7⟩ := hi
  by_cases hA : z.force = false ∧ cover z = false ∧ z.q < z.P
  · have hX : cnextX z = z.q := by unfold cnextX; rw [if_pos hA]
    have hM : cnextM z = true := by unfold cnextM; rw [decide_eq_true hA]; rfl
    have hE : cnext z = { z with q := z.q + 1 } := by unfold cnext; rw [if_pos hA]
    have hn : (aC z).ns = msg3 z.q :: mrow (z.q + 1) (z.P - z.q - 1) := by
      show mrow z.q (z.P - z.q) = _
      rw [← mrow_cons, show z.P - z.q - 1 + 1 = z.P - z.q from by omega]
    have hfit : fitsB (aC z) = true := by
      rw [fits_aC hi0 hA.2.2]
      have := hA.2.1
      unfold cover at this
      rw [decide_eq_true hA.2.2] at this
      have h8 : ¬ 8 ≤ z.q - z.p := by simpa using this
      rw [decide_eq_true (show z.q - z.p < 8 by omega)]
      simp
    rw [hX, hM, hE]
    refine (TC.next_new k hA.1 (msg3 z.q) _ hn hfit (by show (mrow z.p (z.q - z.p)).length < 127; rw [mrow_len]; omega)).mono ?_
    rintro e w' ⟨g8, c8, cs8, rfl, k', kp, hB, hc⟩
    refine ⟨z.q, .slice (some ⟨g8, 0, none⟩) 3 c8, ?_, by omega, by simp, ⟨rfl, fun _ => ⟨g8, c8, cs8, rfl, hB, hc⟩⟩, ?_, kp⟩
    · have : ((aC z).f + ((aC z).ss.length : Int)) % 128 = (z.q : Int) := by show ((z.p : Int) + ((mrow z.p (z.q - z.p)).length : Int)) % 128 = _; rw [mrow_len]; omega
      rw [this]
      rfl
    · refine TC.to k' ?_ rfl
      have e2 : mrow z.p (z.q - z.p) ++ [msg3 z.q] = mrow z.p (z.q + 1 - z.p) := by
        have := mrow_snoc z.p (z.q - z.p)
        rw [show z.p + (z.q - z.p) = z.q from by omega, show z.q - z.p + 1 = z.q + 1 - z.p from by omega] at this
        exact this
      have e3 : z.P - z.q - 1 = z.P - (z.q + 1) := by omega
      simp only [aC, e2, e3]
  · by_cases hB : z.q = z.p
    · have hX : cnextX z = z.q := by unfold cnextX; rw [if_neg hA, if_pos hB]
      have hM : cnextM z = false := by unfold cnextM; rw [decide_eq_false hA, decide_eq_false (fun h => h hB)]; rfl
      have hE : cnext z = { z with pl := 0, force := false } := by unfold cnext; rw [if_neg hA, if_pos hB]
      have hs : (aC z).ss = [] := by show mrow z.p (z.q - z.p) = []; rw [show z.q - z.p = 0 from by omega]; rfl
      have ho : (aC z).ns = [] ∨ (aC z).force = true := by
        by_cases hP : z.q < z.P
        · right
          show z.force = true
          cases hf : z.force
          · exact absurd ⟨hf, by unfold cover; rw [decide_eq_false (show ¬ 8 ≤ z.q - z.p by omega)]; simp, hP⟩ hA
          · rfl
        · left
          show mrow z.q (z.P - z.q) = []
          rw [show z.P - z.q = 0 from by omega]; rfl
      rw [hX, hM, hE]
      refine (TC.next_fill k hs ho).mono ?_
      rintro e w' ⟨rfl, k', kp⟩
      refine ⟨((127 + z.q) % 128 : Nat), .slice none 0 0, ?_, by omega, by rw [if_neg (by decide)]; omega, ⟨rfl, fun h => by cases h⟩, k', kp⟩
      have : ((aC z).f - 1) % 128 = (((127 + z.q) % 128 : Nat) : Int) := by show ((z.p : Int) - 1) % 128 = _; omega
      rw [this]
      rfl
    · have hX : cnextX z = z.p + cplace z := by unfold cnextX; rw [if_neg hA, if_neg hB]
      have hM : cnextM z = true := by unfold cnextM; rw [decide_eq_true (show z.q ≠ z.p from hB)]; simp
      have hE : cnext z = { z with pl := cplace z + 1, force := if z.q - z.p ≤ z.pl then cover z else z.force || cover z } := by unfold cnext; rw [if_neg hA, if_neg hB]
      have hov := over_aC hi0 hB
      have hpl : placeC (aC z) = cplace z := by
        show (if (mrow z.p (z.q - z.p)).length ≤ z.pl then 0 else z.pl) = _
        rw [mrow_len]; rfl
      have hlt := cplace_lt z hB (by omega)
      have ho : (aC z).ns = [] ∨ forceB (aC z) = true := by
        by_cases hP : z.q < z.P
        · right
          unfold forceB
          rw [hov]
          show (z.force || cover z) = true
          cases hf : z.force
          · cases hc : cover z
            · exact absurd ⟨hf, hc, hP⟩ hA
            · rfl
          · rfl
        · left
          show mrow z.q (z.P - z.q) = []
          rw [show z.P - z.q = 0 from by omega]; rfl
      have hx : (aC z).ss[placeC (aC z)]? = some (msg3 (z.p + cplace z)) := by
        rw [hpl]
        exact mrow_get _ _ _ hlt
      rw [hX, hM, hE]
      refine (TC.next_again k ho _ hx).mono ?_
      rintro e w' ⟨g8, c8, cs8, rfl, k', kp, hB', hc⟩
      refine ⟨z.p + cplace z, .slice (some ⟨g8, 0, none⟩) 3 c8, ?_, by omega, by simp, ⟨rfl, fun _ => ⟨g8, c8, cs8, rfl, hB', hc⟩⟩, ?_, kp⟩
      · have : ((aC z).f + (placeC (aC z) : Int)) % 128 = ((z.p + cplace z : Nat) : Int) := by rw [hpl]; show ((z.p : Int) + _) % 128 = _; omega
        rw [this]
        rfl
      · refine TC.to k' ?_ rfl
        have hfc : forceC (aC z) = if z.q - z.p ≤ z.pl then cover z else z.force || cover z := by
          unfold forceC forceB
          rw [hov]
          show (if (mrow z.p (z.q - z.p)).length ≤ z.pl then cover z else (z.force || cover z)) = _
          rw [mrow_len]
        rw [hpl, hfc]
        rfl
theorem LC.nextB {W w : World} {ba ha bb hb : Nat} {z : CLt} (k : LC W w ba ha bb hb z) :
    Calls Try.prog 48 #[.pointer (some ⟨bb, 0, none⟩)] w fun e w' => e = .returned (.agg #[.int .u8 ((127 + (z.r : Int)) % 128), .int .u8 127, .bool true, .bool true, .int .u8 0, .int .u8 0, .bool false, .slice none 0 0]) ∧ LC W w' ba ha bb hb z ∧ KpC w w' := by
  refine ((TC.symm k).next_fill rfl (.inl rfl)).mono ?_
  rintro e w' ⟨rfl, k', kp⟩
  exact ⟨rfl, k'.symm, kp⟩
theorem LC.answerB {W w : World} {ba ha bb hb : Nat} {z : CLt} (k : LC W w ba ha bb hb z) (fsn kind st : Int) (fib x : Bool) (iv : Value) (hiv : iv.oneCell' = true) :
    Calls Try.prog 50 #[.pointer (some ⟨bb, 0, none⟩), .agg #[.int .u8 127, .int .u8 fsn, .bool true, .bool fib, .int .u8 kind, .int .u8 st, .bool x, iv]] w fun e w' => e = .returned (.tuple #[.int .i64 0, .int .i64 0]) ∧ LC W w' ba ha bb hb z ∧ KpC w w' := by
  refine ((TC.symm k).answer_yes 127 fsn kind st true fib x iv hiv (by decide) rfl 0 rfl).mono ?_
  rintro e w' ⟨rfl, k', kp⟩
  exact ⟨rfl, k'.symm, kp⟩
theorem LC.takeA {W w : World} {ba ha bb hb : Nat} {z : CLt} (k : LC W w ba ha bb hb z) (bsn st : Int) (bib x : Bool) (iv : Value) (hiv : iv.oneCell' = true) :
    Calls Try.prog 52 #[.pointer (some ⟨ba, 0, none⟩), .agg #[.int .u8 bsn, .int .u8 127, .bool bib, .bool true, .int .u8 0, .int .u8 st, .bool x, iv]] w fun e w' => e = .returned (.tuple #[.slice none 0 0, .bool false, .int .i64 0]) ∧ LC W w' ba ha bb hb z ∧ KpC w w' := TC.take_no k bsn 127 0 st bib true x iv hiv (.inl (by decide))
theorem LC.answerA {W w : World} {ba ha bb hb : Nat} {z : CLt} (k : LC W w ba ha bb hb z) (rv : Nat) (h1 : z.p ≤ rv) (h2 : rv ≤ z.q) (h3 : z.q ≤ 39) (fsn kind st : Int) (vb fib x : Bool) (iv : Value) (hiv : iv.oneCell' = true) :
    Calls Try.prog 50 #[.pointer (some ⟨ba, 0, none⟩), .agg #[.int .u8 ((127 + (rv : Int)) % 128), .int .u8 fsn, .bool vb, .bool fib, .int .u8 kind, .int .u8 st, .bool x, iv]] w fun e w' => e = .returned (.tuple #[.int .i64 ((rv - z.p : Nat) : Int), .int .i64 0]) ∧ LC W w' ba ha bb hb (cans rv z) ∧ KpC w w' := by
  have hk : knowsB (aC z).f (aC z).ss.length ((127 + (rv : Int)) % 128) = true := by
    show knowsB (z.p : Int) (mrow z.p (z.q - z.p)).length _ = true
    rw [mrow_len]
    unfold knowsB
    simp only [Bool.and_eq_true, decide_eq_true_eq]
    omega
  refine (TC.answer_yes k ((127 + (rv : Int)) % 128) fsn kind st vb fib x iv hiv (by omega) hk (rv - z.p) (by show ((127 + (rv : Int)) % 128 - (z.p : Int) + 1) % 128 = _; omega)).mono ?_
  rintro e w' ⟨rfl, k', kp⟩
  refine ⟨rfl, TC.to k' ?_ rfl, kp⟩
  have e1 : ((127 + (rv : Int)) % 128 + 1) % 128 = rv := by omega
  have e2 : (mrow z.p (z.q - z.p)).drop (rv - z.p) = mrow rv (z.q - rv) := by
    rw [mrow_drop _ _ _ (by omega), show z.p + (rv - z.p) = rv from by omega, show z.q - z.p - (rv - z.p) = z.q - rv from by omega]
  unfold ansC cans
  simp only [aC, e1, e2]
theorem LC.takeB {W w : World} {ba ha bb hb : Nat} {z : CLt} (k : LC W w ba ha bb hb z) (x : Nat) (m : Bool) (n : Int) (hr : z.r ≤ 39) (hx : x ≤ 39) (hn : n = if m = true then (x : Int) else (127 + (x : Int)) % 128) (iv : Value) (hiv : Iv w m x iv) :
    Calls Try.prog 52 #[.pointer (some ⟨bb, 0, none⟩), .agg #[.int .u8 127, .int .u8 n, .bool true, .bool true, .int .u8 (if m = true then 2 else 0), .int .u8 0, .bool false, iv]] w fun e w' => ∃ (sl : Value), e = .returned (.tuple #[sl, .bool (m && decide (x = z.r)), .int .i64 0]) ∧ ((m && decide (x = z.r)) = true → ∃ (g8 c8 : Nat), sl = .slice (some ⟨g8, 0, none⟩) 3 c8 ∧ w'.cell? ⟨g8, 0, none⟩ = some (.int .u8 x)) ∧ LC W w' ba ha bb hb (ctake x m z) ∧ KpC w w' := by
  have K := TC.symm k
  by_cases hc : m = true ∧ x = z.r
  · obtain ⟨rfl, hxr⟩ := hc
    obtain ⟨hiv1, hiv2⟩ := hiv
    obtain ⟨g8, c8, cs8, rfl, hB, hc⟩ := hiv2 rfl
    rw [if_pos rfl] at hn
    have hkk := K.take_msg 127 n 2 0 true true false (msg3 x) g8 c8 cs8 hB hc ⟨by show 1 ≤ 3; decide, by show 3 ≤ 400; decide⟩ (by show n = ((127 + (z.r : Int)) % 128 + 1) % 128; omega) rfl
    refine hkk.mono ?_
    rintro e w' ⟨g9, c9, cs9, rfl, k', kp, hB', hc'⟩
    refine ⟨.slice (some ⟨g9, 0, none⟩) 3 c9, ?_, fun _ => ⟨g9, c9, rfl, hB'.cell 0 (hc' 0 _ rfl)⟩, ?_, kp⟩
    · rw [show (true && decide (x = z.r)) = true from by simp [hxr]]
      rfl
    · refine TC.to k'.symm ?_ ?_
      · unfold ctake
        rw [if_pos ⟨rfl, hxr⟩]
        rfl
      · unfold ctake
        rw [if_pos ⟨rfl, hxr⟩]
        have : n = (127 + ((z.r + 1 : Nat) : Int)) % 128 := by omega
        simp only [bC, this]
  · have hno : (m && decide (x = z.r)) = false := by
      cases m
      · rfl
      · simp only [Bool.true_and, decide_eq_false_iff_not]
        exact fun h => hc ⟨rfl, h⟩
    have hkk := K.take_no 127 n (if m = true then 2 else 0) 0 true true false iv hiv.1 (by
      cases m
      · exact .inl (by decide)
      · right
        show n ≠ ((127 + (z.r : Int)) % 128 + 1) % 128
        rw [if_pos rfl] at hn
        have : ¬ x = z.r := fun h => hc ⟨rfl, h⟩
        omega)
    refine hkk.mono ?_
    rintro e w' ⟨rfl, k', kp⟩
    refine ⟨.slice none 0 0, by rw [hno], (fun h => by rw [hno] at h; cases h), ?_, kp⟩
    unfold ctake
    rw [if_neg hc]
    exact k'.symm
end Go.Proofs.Ytadheikcgdhcdaa
