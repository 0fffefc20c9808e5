/-
  Two cyclic ways that may hold much, on lines that lose: what each call of a round does to the plain state.
-/
import Derived.Test.YtadheikcgdhcdaaLosC
import Derived.Test.YtadheikcgdhcdaaCLP
import Derived.Test.YtadheikcgdhcdaaQu
import Derived.Test.YtadheikcgdhcdaaHxT
namespace Go.Proofs.Ytadheikcgdhcdaa
open Go.RowKit
set_option linter.unusedVariables false
set_option linter.unusedSimpArgs false

def MG (n1 n2 : Int) (M : Nat) : Prop := (M : Int) ≤ n1 ∧ 3 * (M : Int) ≤ n2 ∧ (n1 ≤ M ∨ n2 < 3 * (M : Int) + 3) ∧ 1 ≤ M
section
variable {n1 n2 : Int} {M : Nat}
def aG (n1 n2 : Int) (z : CLt) : CSt := { n1 := n1, n2 := n2, last := 127, pl := z.pl, force := z.force, q0 := false, q1 := false, f := z.p, ss := mrow z.p (z.q - z.p), ns := mrow z.q (z.P - z.q) }
def bG (n1 n2 : Int) (z : CLt) : CSt := { n1 := n1, n2 := n2, last := (127 + (z.r : Int)) % 128, pl := 0, force := false, q0 := false, q1 := false, f := 0, ss := [], ns := [] }
def LG (n1 n2 : Int) (W w : World) (ba ha bb hb : Nat) (z : CLt) : Prop := TC W w ba ha bb hb 200 100000 (aG n1 n2 z) (bG n1 n2 z)
theorem LG.below {W w w' : World} {ba ha bb hb : Nat} {z : CLt} (k : LG n1 n2 W w ba ha bb hb z) (h : Below w.heap.size w w') : LG n1 n2 W w' ba ha bb hb z := TC.below k h
theorem LG.hold {W w : World} {ba ha bb hb : Nat} {z : CLt} (k : LG n1 n2 W w ba ha bb hb z) : Calls Try.prog 47 #[.pointer (some ⟨ba, 0, none⟩)] w fun e w' => e = .returned (.pointer (some ⟨ha, 0, none⟩)) ∧ w' = w := TC.hold k
theorem LG.put {W w : World} {ba ha bb hb : Nat} {z : CLt} (k : LG n1 n2 W w ba ha bb hb z) (h1 : z.p ≤ z.q) (h2 : z.q ≤ z.P) (h3 : z.P ≤ 39) (v : Value) (hv : Oct w v (msg3 z.P)) :
    Calls Try.prog 21 #[.pointer (some ⟨ha, 0, none⟩), v] w fun e w' => e = .returned (.int .i64 0) ∧ LG n1 n2 W w' ba ha bb hb { z with P := z.P + 1 } ∧ KpC w w' := by
  have hc : putCode 200 100000 (aG n1 n2 z).ss (aG n1 n2 z).ns (msg3 z.P).length = 0 := by
    have hl : (msg3 z.P).length = 3 := rfl
    show putCode 200 100000 (mrow z.p (z.q - z.p)) (mrow z.q (z.P - z.q)) _ = _
    unfold putCode
    rw [hl, mrow_len, mrow_len, mrow_octs, mrow_octs]
    rw [if_neg (by decide), if_neg (by decide), if_neg (by omega)]
  refine (TC.put k v (msg3 z.P) hv (by decide)).mono ?_
  rintro e w' ⟨rfl, k', kp⟩
  refine ⟨by rw [hc], ?_, kp⟩
  rw [hc] at k'
  refine TC.to k' ?_ rfl
  have e1 : mrow z.q (z.P - z.q) ++ [msg3 z.P] = mrow z.q (z.P + 1 - z.q) := by
    have := mrow_snoc z.q (z.P - z.q)
    rw [show z.q + (z.P - z.q) = z.P from by omega, show z.P - z.q + 1 = z.P + 1 - z.q from by omega] at this
    exact this
  simp only [aG, if_true, e1]
theorem fits_aG {z : CLt} (hM : MG n1 n2 M) (hi : z.p ≤ z.q ∧ z.q ≤ z.P ∧ z.P ≤ 39) (h : z.q < z.P) : fitsB (aG n1 n2 z) = (decide (z.q = z.p) || decide (z.q - z.p < M)) := by
  obtain ⟨h1, h2, h3⟩ := hi
  obtain ⟨m1, m2, m3, m4⟩ := hM
  have e1 : (aG n1 n2 z).ns = msg3 z.q :: mrow (z.q + 1) (z.P - z.q - 1) := by
    show mrow z.q (z.P - z.q) = _
    rw [← mrow_cons, show z.P - z.q - 1 + 1 = z.P - z.q from by omega]
  have e2 : size1 (aG n1 n2 z).ns = 3 := by rw [e1]; rfl
  have e3 : octs (aG n1 n2 z).ss = 3 * ((z.q - z.p : Nat) : Int) := mrow_octs _ _
  have e4 : (aG n1 n2 z).ss.length = z.q - z.p := mrow_len _ _
  unfold fitsB
  rw [e2, e3, e4]
  show (decide (z.q - z.p = 0) || (decide (((z.q - z.p : Nat) : Int) < n1) && decide (3 * ((z.q - z.p : Nat) : Int) + 3 ≤ n2))) = _
  by_cases c1 : z.q = z.p
  · simp [c1]
  · by_cases c2 : z.q - z.p < M
    · have a1 : ((z.q - z.p : Nat) : Int) < n1 := by omega
      have a2 : 3 * ((z.q - z.p : Nat) : Int) + 3 ≤ n2 := by omega
      rw [decide_eq_true a1, decide_eq_true a2, decide_eq_true c2]
      simp
    · have a3 : ¬ (z.q - z.p = 0) := by omega
      rw [decide_eq_false c2, decide_eq_false a3, decide_eq_false c1]
      by_cases a1 : ((z.q - z.p : Nat) : Int) < n1
      · rw [decide_eq_false (show ¬ 3 * ((z.q - z.p : Nat) : Int) + 3 ≤ n2 by omega)]; simp
      · rw [decide_eq_false a1]; rfl
theorem over_aG {z : CLt} (hM : MG n1 n2 M) (hi : z.p ≤ z.q ∧ z.q ≤ z.P ∧ z.P ≤ 39) (hne : z.q ≠ z.p) : (decide (0 < (aG n1 n2 z).ns.length) && !fitsB (aG n1 n2 z)) = gover M z := by
  have e4 : (aG n1 n2 z).ns.length = z.P - z.q := mrow_len _ _
  unfold gover
  by_cases h : z.q < z.P
  · rw [fits_aG hM hi h, e4, decide_eq_false hne, decide_eq_true h, decide_eq_true (show 0 < z.P - z.q by omega)]
    by_cases c2 : z.q - z.p < M
    · rw [decide_eq_true c2, decide_eq_false (show ¬ M ≤ z.q - z.p by omega)]; rfl
    · rw [decide_eq_false c2, decide_eq_true (show M ≤ z.q - z.p by omega)]; rfl
  · rw [e4, decide_eq_false h, decide_eq_false (show ¬ 0 < z.P - z.q by omega)]; rfl
theorem LG.nextA {W w : World} {ba ha bb hb : Nat} {z : CLt} (hMG : MG n1 n2 M) (k : LG n1 n2 W w ba ha bb hb z) (hi : z.p ≤ z.q ∧ z.q ≤ z.P ∧ z.P ≤ 39) :
    Calls Try.prog 48 #[.pointer (some ⟨ba, 0, none⟩)] w fun e w' => ∃ (x : Nat) (iv : Value), e = .returned (.agg #[.int .u8 127, .int .u8 x, .bool true, .bool true, .int .u8 (if gnextM M z = true then 2 else 0), .int .u8 0, .bool false, iv]) ∧ x ≤ 127 ∧ ((x : Int) = if gnextM M z = true then (gnextX M z : Int) else (127 + (gnextX M z : Int)) % 128) ∧ Iv w' (gnextM M z) (gnextX M z) iv ∧ LG n1 n2 W w' ba ha bb hb (gnext M z) ∧ KpC w w' := by
  have hi0 := hi
  obtain ⟨h1, h2, h3⟩ := hi
  have hM1 := hMG.2.2.2
  by_cases hA : z.force = false ∧ gover M z = false ∧ z.q < z.P
  · have hX : gnextX M z = z.q := by unfold gnextX; rw [if_pos hA]
    have hM : gnextM M z = true := by unfold gnextM; rw [decide_eq_true hA]; rfl
    have hE : gnext M z = { z with q := z.q + 1 } := by unfold gnext; rw [if_pos hA]
    have hn : (aG n1 n2 z).ns = msg3 z.q :: mrow (z.q + 1) (z.P - z.q - 1) := by
      show mrow z.q (z.P - z.q) = _
      rw [← mrow_cons, show z.P - z.q - 1 + 1 = z.P - z.q from by omega]
    have hfit : fitsB (aG n1 n2 z) = true := by
      rw [fits_aG hMG hi0 hA.2.2]
      have := hA.2.1
      unfold gover at this
      rw [decide_eq_true hA.2.2] at this
      have h8 : ¬ M ≤ z.q - z.p := by simpa using this
      rw [decide_eq_true (show z.q - z.p < M by omega)]
      simp
    rw [hX, hM, hE]
    refine (TC.next_new k hA.1 (msg3 z.q) _ hn hfit (by show (mrow z.p (z.q - z.p)).length < 127; rw [mrow_len]; omega)).mono ?_
    rintro e w' ⟨g8, c8, cs8, rfl, k', kp, hB, hc⟩
    refine ⟨z.q, .slice (some ⟨g8, 0, none⟩) 3 c8, ?_, by omega, by simp, ⟨rfl, fun _ => ⟨g8, c8, cs8, rfl, hB, hc⟩⟩, ?_, kp⟩
    · have : ((aG n1 n2 z).f + ((aG n1 n2 z).ss.length : Int)) % 128 = (z.q : Int) := by show ((z.p : Int) + ((mrow z.p (z.q - z.p)).length : Int)) % 128 = _; rw [mrow_len]; omega
      rw [this]
      rfl
    · refine TC.to k' ?_ rfl
      have e2 : mrow z.p (z.q - z.p) ++ [msg3 z.q] = mrow z.p (z.q + 1 - z.p) := by
        have := mrow_snoc z.p (z.q - z.p)
        rw [show z.p + (z.q - z.p) = z.q from by omega, show z.q - z.p + 1 = z.q + 1 - z.p from by omega] at this
        exact this
      have e3 : z.P - z.q - 1 = z.P - (z.q + 1) := by omega
      simp only [aG, e2, e3]
  · by_cases hB : z.q = z.p
    · have hX : gnextX M z = z.q := by unfold gnextX; rw [if_neg hA, if_pos hB]
      have hM : gnextM M z = false := by unfold gnextM; rw [decide_eq_false hA, decide_eq_false (fun h => h hB)]; rfl
      have hE : gnext M z = { z with pl := 0, force := false } := by unfold gnext; rw [if_neg hA, if_pos hB]
      have hs : (aG n1 n2 z).ss = [] := by show mrow z.p (z.q - z.p) = []; rw [show z.q - z.p = 0 from by omega]; rfl
      have ho : (aG n1 n2 z).ns = [] ∨ (aG n1 n2 z).force = true := by
        by_cases hP : z.q < z.P
        · right
          show z.force = true
          cases hf : z.force
          · exact absurd ⟨hf, by unfold gover; rw [decide_eq_false (show ¬ M ≤ z.q - z.p by omega)]; simp, hP⟩ hA
          · rfl
        · left
          show mrow z.q (z.P - z.q) = []
          rw [show z.P - z.q = 0 from by omega]; rfl
      rw [hX, hM, hE]
      refine (TC.next_fill k hs ho).mono ?_
      rintro e w' ⟨rfl, k', kp⟩
      refine ⟨((127 + z.q) % 128 : Nat), .slice none 0 0, ?_, by omega, by rw [if_neg (by decide)]; omega, ⟨rfl, fun h => by cases h⟩, k', kp⟩
      have : ((aG n1 n2 z).f - 1) % 128 = (((127 + z.q) % 128 : Nat) : Int) := by show ((z.p : Int) - 1) % 128 = _; omega
      rw [this]
      rfl
    · have hX : gnextX M z = z.p + cplace z := by unfold gnextX; rw [if_neg hA, if_neg hB]
      have hM : gnextM M z = true := by unfold gnextM; rw [decide_eq_true (show z.q ≠ z.p from hB)]; simp
      have hE : gnext M z = { z with pl := cplace z + 1, force := if z.q - z.p ≤ z.pl then gover M z else z.force || gover M z } := by unfold gnext; rw [if_neg hA, if_neg hB]
      have hov := over_aG hMG hi0 hB
      have hpl : placeC (aG n1 n2 z) = cplace z := by
        show (if (mrow z.p (z.q - z.p)).length ≤ z.pl then 0 else z.pl) = _
        rw [mrow_len]; rfl
      have hlt := cplace_lt z hB (by omega)
      have ho : (aG n1 n2 z).ns = [] ∨ forceB (aG n1 n2 z) = true := by
        by_cases hP : z.q < z.P
        · right
          unfold forceB
          rw [hov]
          show (z.force || gover M z) = true
          cases hf : z.force
          · cases hc : gover M z
            · exact absurd ⟨hf, hc, hP⟩ hA
            · rfl
          · rfl
        · left
          show mrow z.q (z.P - z.q) = []
          rw [show z.P - z.q = 0 from by omega]; rfl
      have hx : (aG n1 n2 z).ss[placeC (aG n1 n2 z)]? = some (msg3 (z.p + cplace z)) := by
        rw [hpl]
        exact mrow_get _ _ _ hlt
      rw [hX, hM, hE]
      refine (TC.next_again k ho _ hx).mono ?_
      rintro e w' ⟨g8, c8, cs8, rfl, k', kp, hB', hc⟩
      refine ⟨z.p + cplace z, .slice (some ⟨g8, 0, none⟩) 3 c8, ?_, by omega, by simp, ⟨rfl, fun _ => ⟨g8, c8, cs8, rfl, hB', hc⟩⟩, ?_, kp⟩
      · have : ((aG n1 n2 z).f + (placeC (aG n1 n2 z) : Int)) % 128 = ((z.p + cplace z : Nat) : Int) := by rw [hpl]; show ((z.p : Int) + _) % 128 = _; omega
        rw [this]
        rfl
      · refine TC.to k' ?_ rfl
        have hfc : forceC (aG n1 n2 z) = if z.q - z.p ≤ z.pl then gover M z else z.force || gover M z := by
          unfold forceC forceB
          rw [hov]
          show (if (mrow z.p (z.q - z.p)).length ≤ z.pl then gover M z else (z.force || gover M z)) = _
          rw [mrow_len]
        rw [hpl, hfc]
        rfl
theorem LG.nextB {W w : World} {ba ha bb hb : Nat} {z : CLt} (k : LG n1 n2 W w ba ha bb hb z) :
    Calls Try.prog 48 #[.pointer (some ⟨bb, 0, none⟩)] w fun e w' => e = .returned (.agg #[.int .u8 ((127 + (z.r : Int)) % 128), .int .u8 127, .bool true, .bool true, .int .u8 0, .int .u8 0, .bool false, .slice none 0 0]) ∧ LG n1 n2 W w' ba ha bb hb z ∧ KpC w w' := by
  refine ((TC.symm k).next_fill rfl (.inl rfl)).mono ?_
  rintro e w' ⟨rfl, k', kp⟩
  exact ⟨rfl, k'.symm, kp⟩
theorem LG.answerB {W w : World} {ba ha bb hb : Nat} {z : CLt} (k : LG n1 n2 W w ba ha bb hb z) (fsn kind st : Int) (fib x : Bool) (iv : Value) (hiv : iv.oneCell' = true) :
    Calls Try.prog 50 #[.pointer (some ⟨bb, 0, none⟩), .agg #[.int .u8 127, .int .u8 fsn, .bool true, .bool fib, .int .u8 kind, .int .u8 st, .bool x, iv]] w fun e w' => e = .returned (.tuple #[.int .i64 0, .int .i64 0]) ∧ LG n1 n2 W w' ba ha bb hb z ∧ KpC w w' := by
  refine ((TC.symm k).answer_yes 127 fsn kind st true fib x iv hiv (by decide) rfl 0 rfl).mono ?_
  rintro e w' ⟨rfl, k', kp⟩
  exact ⟨rfl, k'.symm, kp⟩
theorem LG.takeA {W w : World} {ba ha bb hb : Nat} {z : CLt} (k : LG n1 n2 W w ba ha bb hb z) (bsn st : Int) (bib x : Bool) (iv : Value) (hiv : iv.oneCell' = true) :
    Calls Try.prog 52 #[.pointer (some ⟨ba, 0, none⟩), .agg #[.int .u8 bsn, .int .u8 127, .bool bib, .bool true, .int .u8 0, .int .u8 st, .bool x, iv]] w fun e w' => e = .returned (.tuple #[.slice none 0 0, .bool false, .int .i64 0]) ∧ LG n1 n2 W w' ba ha bb hb z ∧ KpC w w' := TC.take_no k bsn 127 0 st bib true x iv hiv (.inl (by decide))
theorem LG.answerA {W w : World} {ba ha bb hb : Nat} {z : CLt} (k : LG n1 n2 W w ba ha bb hb z) (rv : Nat) (h1 : z.p ≤ rv) (h2 : rv ≤ z.q) (h3 : z.q ≤ 39) (fsn kind st : Int) (vb fib x : Bool) (iv : Value) (hiv : iv.oneCell' = true) :
    Calls Try.prog 50 #[.pointer (some ⟨ba, 0, none⟩), .agg #[.int .u8 ((127 + (rv : Int)) % 128), .int .u8 fsn, .bool vb, .bool fib, .int .u8 kind, .int .u8 st, .bool x, iv]] w fun e w' => e = .returned (.tuple #[.int .i64 ((rv - z.p : Nat) : Int), .int .i64 0]) ∧ LG n1 n2 W w' ba ha bb hb (cans rv z) ∧ KpC w w' := by
  have hk : knowsB (aG n1 n2 z).f (aG n1 n2 z).ss.length ((127 + (rv : Int)) % 128) = true := by
    show knowsB (z.p : Int) (mrow z.p (z.q - z.p)).length _ = true
    rw [mrow_len]
    unfold knowsB
    simp only [Bool.and_eq_true, decide_eq_true_eq]
    omega
  refine (TC.answer_yes k ((127 + (rv : Int)) % 128) fsn kind st vb fib x iv hiv (by omega) hk (rv - z.p) (by show ((127 + (rv : Int)) % 128 - (z.p : Int) + 1) % 128 = _; omega)).mono ?_
  rintro e w' ⟨rfl, k', kp⟩
  refine ⟨rfl, TC.to k' ?_ rfl, kp⟩
  have e1 : ((127 + (rv : Int)) % 128 + 1) % 128 = rv := by omega
  have e2 : (mrow z.p (z.q - z.p)).drop (rv - z.p) = mrow rv (z.q - rv) := by
    rw [mrow_drop _ _ _ (by omega), show z.p + (rv - z.p) = rv from by omega, show z.q - z.p - (rv - z.p) = z.q - rv from by omega]
  unfold ansC cans
  simp only [aG, e1, e2]
theorem LG.takeB {W w : World} {ba ha bb hb : Nat} {z : CLt} (k : LG n1 n2 W w ba ha bb hb z) (x : Nat) (m : Bool) (n : Int) (hr : z.r ≤ 39) (hx : x ≤ 39) (hn : n = if m = true then (x : Int) else (127 + (x : Int)) % 128) (iv : Value) (hiv : Iv w m x iv) :
    Calls Try.prog 52 #[.pointer (some ⟨bb, 0, none⟩), .agg #[.int .u8 127, .int .u8 n, .bool true, .bool true, .int .u8 (if m = true then 2 else 0), .int .u8 0, .bool false, iv]] w fun e w' => ∃ (sl : Value), e = .returned (.tuple #[sl, .bool (m && decide (x = z.r)), .int .i64 0]) ∧ ((m && decide (x = z.r)) = true → ∃ (g8 c8 : Nat), sl = .slice (some ⟨g8, 0, none⟩) 3 c8 ∧ w'.cell? ⟨g8, 0, none⟩ = some (.int .u8 x)) ∧ LG n1 n2 W w' ba ha bb hb (ctake x m z) ∧ KpC w w' := by
  have K := TC.symm k
  by_cases hc : m = true ∧ x = z.r
  · obtain ⟨rfl, hxr⟩ := hc
    obtain ⟨hiv1, hiv2⟩ := hiv
    obtain ⟨g8, c8, cs8, rfl, hB, hc⟩ := hiv2 rfl
    rw [if_pos rfl] at hn
    have hkk := K.take_msg 127 n 2 0 true true false (msg3 x) g8 c8 cs8 hB hc ⟨by show 1 ≤ 3; decide, by show 3 ≤ 400; decide⟩ (by show n = ((127 + (z.r : Int)) % 128 + 1) % 128; omega) rfl
    refine hkk.mono ?_
    rintro e w' ⟨g9, c9, cs9, rfl, k', kp, hB', hc'⟩
    refine ⟨.slice (some ⟨g9, 0, none⟩) 3 c9, ?_, fun _ => ⟨g9, c9, rfl, hB'.cell 0 (hc' 0 _ rfl)⟩, ?_, kp⟩
    · rw [show (true && decide (x = z.r)) = true from by simp [hxr]]
      rfl
    · refine TC.to k'.symm ?_ ?_
      · unfold ctake
        rw [if_pos ⟨rfl, hxr⟩]
        rfl
      · unfold ctake
        rw [if_pos ⟨rfl, hxr⟩]
        have : n = (127 + ((z.r + 1 : Nat) : Int)) % 128 := by omega
        simp only [bG, this]
  · have hno : (m && decide (x = z.r)) = false := by
      cases m
      · rfl
      · simp only [Bool.true_and, decide_eq_false_iff_not]
        exact fun h => hc ⟨rfl, h⟩
    have hkk := K.take_no 127 n (if m = true then 2 else 0) 0 true true false iv hiv.1 (by
      cases m
      · exact .inl (by decide)
      · right
        show n ≠ ((127 + (z.r : Int)) % 128 + 1) % 128
        rw [if_pos rfl] at hn
        have : ¬ x = z.r := fun h => hc ⟨rfl, h⟩
        omega)
    refine hkk.mono ?_
    rintro e w' ⟨rfl, k', kp⟩
    refine ⟨.slice none 0 0, by rw [hno], (fun h => by rw [hno] at h; cases h), ?_, kp⟩
    unfold ctake
    rw [if_neg hc]
    exact k'.symm
/-- A change of blocks of units behind W changes no way. -/
theorem CX.fr69 {S : Nat → Prop} {w w' : World} {b h : Nat} {m o : Int} {sv nv : Value} {s : CSt} (k : CX w b h m o sv nv s) (hF : Fr S w w') (hS : ∀ q, S q → ∃ cs, Blk w q cs 69) : CX w' b h m o sv nv s := by
  refine ⟨Blk.fr k.cs hF ?_, k.hx.fr hF ?_ ?_ ?_, k.inv, k.lst⟩
  · intro e
    obtain ⟨cs, hc⟩ := hS _ e
    exact Blk.apart k.cs hc (by decide) rfl
  · intro e
    obtain ⟨cs, hc⟩ := hS _ e
    exact Blk.apart k.hx.blk hc (by decide) rfl
  · intro q hq e
    obtain ⟨cs, hc⟩ := hS _ e
    obtain ⟨ds, hd⟩ := k.hx.row33 hq
    exact Blk.apart hd hc (by decide) rfl
  · intro g cs hG e
    obtain ⟨ds, hd⟩ := hS _ e
    exact Blk.apart hG hd (by decide) rfl
theorem LG.grown {W w w' : World} {ba ha bb hb : Nat} {z : CLt} (k : LG n1 n2 W w ba ha bb hb z) {row : Option Nat} (hg : w.grownBy w' row) (hr : ∀ q, row = some q → W.heap.size ≤ q ∧ ∃ cs, Blk w q cs 69) : LG n1 n2 W w' ba ha bb hb z := by
  obtain ⟨sv, nv, sv2, nv2, k1, k2, r1, r2, r3⟩ := k.ex
  have hF : Fr (fun k => row = some k) w w' := ⟨hg.os, hg.tape, hg.output, hg.size, fun k hk hn => hg.block k hk (fun e => hn e.symm)⟩
  exact ⟨k.bel.trans (hF.below k.bel.size (fun q e => (hr q e).1)), k.beb, k.beh, k.beb2, k.beh2, k.bne, k.hne, sv, nv, sv2, nv2, k1.fr69 hF (fun q e => (hr q e).2), k2.fr69 hF (fun q e => (hr q e).2), r1, r2, r3⟩
theorem LG.sent {W w : World} {ba ha bb hb : Nat} {z : CLt} (k : LG n1 n2 W w ba ha bb hb z) : Calls Try.prog 24 #[.pointer (some ⟨ha, 0, none⟩)] w fun e w' => e = .returned (.int .i64 ((z.q - z.p : Nat) : Int)) ∧ w' = w := by
  obtain ⟨sv, nv, sv2, nv2, k1, k2, r1, r2, r3⟩ := k.ex
  refine (k1.hx.sent).mono ?_
  rintro e w' ⟨rfl, rfl⟩
  exact ⟨by show Ending.returned (.int .i64 ((mrow z.p (z.q - z.p)).length : Int)) = _; rw [mrow_len], rfl⟩
theorem LG.nexts {W w : World} {ba ha bb hb : Nat} {z : CLt} (k : LG n1 n2 W w ba ha bb hb z) : Calls Try.prog 53 #[.pointer (some ⟨ha, 0, none⟩)] w fun e w' => e = .returned (.int .i64 ((z.P - z.q : Nat) : Int)) ∧ w' = w := by
  obtain ⟨sv, nv, sv2, nv2, k1, k2, r1, r2, r3⟩ := k.ex
  refine (k1.hx.nexts).mono ?_
  rintro e w' ⟨rfl, rfl⟩
  exact ⟨by show Ending.returned (.int .i64 ((mrow z.q (z.P - z.q)).length : Int)) = _; rw [mrow_len], rfl⟩
end
end Go.Proofs.Ytadheikcgdhcdaa
