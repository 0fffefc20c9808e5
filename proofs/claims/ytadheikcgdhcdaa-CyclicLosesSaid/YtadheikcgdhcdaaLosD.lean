/-
  Two basic ways that may hold much, on lines that lose: what each call of a round does to the plain state.
-/
import Derived.Test.YtadheikcgdhcdaaLosB
import Derived.Test.YtadheikcgdhcdaaQu
namespace Go.Proofs.Ytadheikcgdhcdaa
open Go.RowKit
set_option linter.unusedVariables false
set_option linter.unusedSimpArgs false

def LD (W w : World) (ba ha bb hb : Nat) (z : LSt) : Prop := TB W w ba ha bb hb 200 100000 (aB z) (bB z)
/-- A change of blocks of units behind W changes no way. -/
theorem BX.fr69 {S : Nat → Prop} {w w' : World} {b h : Nat} {m o : Int} {sv nv : Value} {s : BSt} (k : BX w b h m o sv nv s) (hF : Fr S w w') (hS : ∀ q, S q → ∃ cs, Blk w q cs 69) : BX w' b h m o sv nv s := by
  refine ⟨Blk.fr k.bs hF ?_, k.hx.fr hF ?_ ?_ ?_, k.inv, k.lst⟩
  · intro e
    obtain ⟨cs, hc⟩ := hS _ e
    exact Blk.apart k.bs hc (by decide) rfl
  · intro e
    obtain ⟨cs, hc⟩ := hS _ e
    exact Blk.apart k.hx.blk hc (by decide) rfl
  · intro q hq e
    obtain ⟨cs, hc⟩ := hS _ e
    obtain ⟨ds, hd⟩ := k.hx.row33 hq
    exact Blk.apart hd hc (by decide) rfl
  · intro g cs hG e
    obtain ⟨ds, hd⟩ := hS _ e
    exact Blk.apart hG hd (by decide) rfl
theorem LD.grown {W w w' : World} {ba ha bb hb : Nat} {z : LSt} (k : LD W w ba ha bb hb z) {row : Option Nat} (hg : w.grownBy w' row) (hr : ∀ q, row = some q → W.heap.size ≤ q ∧ ∃ cs, Blk w q cs 69) : LD W w' ba ha bb hb z := by
  obtain ⟨sv, nv, sv2, nv2, k1, k2, r1, r2, r3⟩ := k.ex
  have hF : Fr (fun k => row = some k) w w' := ⟨hg.os, hg.tape, hg.output, hg.size, fun k hk hn => hg.block k hk (fun e => hn e.symm)⟩
  exact ⟨k.bel.trans (hF.below k.bel.size (fun q e => (hr q e).1)), k.beb, k.beh, k.beb2, k.beh2, k.bne, k.hne, sv, nv, sv2, nv2, k1.fr69 hF (fun q e => (hr q e).2), k2.fr69 hF (fun q e => (hr q e).2), r1, r2, r3⟩
/-- A message stays where a block of units grows. -/
theorem Iv.grown {w w' : World} {m : Bool} {g : Nat} {iv : Value} (h : Iv w m g iv) {row : Option Nat} (hg : w.grownBy w' row) (hr : ∀ q, row = some q → ∃ cs, Blk w q cs 69) : Iv w' m g iv := by
  refine ⟨h.1, fun hm => ?_⟩
  obtain ⟨g8, c8, cs8, e, hB, hc⟩ := h.2 hm
  exact ⟨g8, c8, cs8, e, hB.grown hg (fun e => by obtain ⟨cs, h2⟩ := hr _ e; exact Blk.apart hB h2 (by decide) rfl), hc⟩
theorem LD.below {W w w' : World} {ba ha bb hb : Nat} {z : LSt} (k : LD W w ba ha bb hb z) (h : Below w.heap.size w w') : LD W w' ba ha bb hb z := TB.below k h
theorem LD.hold {W w : World} {ba ha bb hb : Nat} {z : LSt} (k : LD W w ba ha bb hb z) : Calls Try.prog 41 #[.pointer (some ⟨ba, 0, none⟩)] w fun e w' => e = .returned (.pointer (some ⟨ha, 0, none⟩)) ∧ w' = w := TB.hold k
theorem LD.put {W w : World} {ba ha bb hb : Nat} {z : LSt} (k : LD W w ba ha bb hb z) (h1 : z.p ≤ z.q) (h2 : z.q ≤ z.P) (h3 : z.P ≤ 39) (v : Value) (hv : Oct w v (msg3 z.P)) :
    Calls Try.prog 21 #[.pointer (some ⟨ha, 0, none⟩), v] w fun e w' => e = .returned (.int .i64 0) ∧ LD W w' ba ha bb hb { z with P := z.P + 1 } ∧ KpB w w' := by
  have hc : putCode 200 100000 (aB z).ss (aB z).ns (msg3 z.P).length = 0 := by
    have hl : (msg3 z.P).length = 3 := rfl
    show putCode 200 100000 (mrow z.p (z.q - z.p)) (mrow z.q (z.P - z.q)) _ = _
    unfold putCode
    rw [hl, mrow_len, mrow_len, mrow_octs, mrow_octs]
    rw [if_neg (by decide), if_neg (by decide), if_neg (by omega)]
  refine (TB.put k v (msg3 z.P) hv (by decide)).mono ?_
  rintro e w' ⟨rfl, k', kp⟩
  refine ⟨by rw [hc], ?_, kp⟩
  rw [hc] at k'
  refine TB.to k' ?_ rfl
  have e1 : mrow z.q (z.P - z.q) ++ [msg3 z.P] = mrow z.q (z.P + 1 - z.q) := by
    have := mrow_snoc z.q (z.P - z.q)
    rw [show z.q + (z.P - z.q) = z.P from by omega, show z.P - z.q + 1 = z.P + 1 - z.q from by omega] at this
    exact this
  simp only [aB, if_true, e1]
theorem LD.nextA {W w : World} {ba ha bb hb : Nat} {z : LSt} (k : LD W w ba ha bb hb z) (hi : z.p ≤ z.g ∧ z.g ≤ z.q ∧ z.q ≤ z.P ∧ z.P ≤ 39) :
    Calls Try.prog 42 #[.pointer (some ⟨ba, 0, none⟩)] w fun e w' => ∃ (x : Nat) (iv : Value), e = .returned (.agg #[.int .u8 127, .int .u8 x, .bool true, .bool z.fib, .int .u8 (if z.g < z.P then 2 else 0), .int .u8 0, .bool false, iv]) ∧ x ≤ 127 ∧ (z.g < z.P → x = z.g) ∧ (¬ z.g < z.P → (x : Int) = (127 + (z.g : Int)) % 128) ∧ Iv w' (decide (z.g < z.P)) z.g iv ∧ LD W w' ba ha bb hb (lnext z) ∧ KpB w w' := by
  obtain ⟨h1, h3, h4, h5⟩ := hi
  by_cases hg : z.g < z.P
  · by_cases hq : z.g < z.q
    · have ha : (aB z).ag = ((z.g - z.p : Nat) : Int) := by show (if z.g < z.q then (z.g : Int) - z.p else -1) = _; rw [if_pos hq]; omega
      have hx : (aB z).ss[z.g - z.p]? = some (msg3 z.g) := by
        show (mrow z.p (z.q - z.p))[z.g - z.p]? = _
        rw [mrow_get _ _ _ (by omega), show z.p + (z.g - z.p) = z.g from by omega]
      refine (TB.next_again k (z.g - z.p) ha (msg3 z.g) hx).mono ?_
      rintro e w' ⟨g8, c8, cs8, rfl, k', kp, hB, hc⟩
      refine ⟨z.g, .slice (some ⟨g8, 0, none⟩) 3 c8, ?_, by omega, fun _ => rfl, fun h => absurd hg h, ⟨rfl, fun _ => ⟨g8, c8, cs8, rfl, hB, hc⟩⟩, ?_, kp⟩
      · rw [if_pos hg]
        have : ((aB z).f + ((z.g - z.p : Nat) : Int)) % 128 = (z.g : Int) := by show ((z.p : Int) + _) % 128 = _; omega
        rw [this]
        rfl
      · refine TB.to k' ?_ ?_
        · unfold lnext
          rw [if_pos hg]
          have e1 : max z.q (z.g + 1) = z.q := by omega
          have e2 : (if (aB z).ss.length ≤ z.g - z.p + 1 then (-1 : Int) else ((z.g - z.p : Nat) : Int) + 1) = if z.g + 1 < z.q then ((z.g + 1 : Nat) : Int) - z.p else -1 := by
            show (if (mrow z.p (z.q - z.p)).length ≤ _ then _ else _) = _
            rw [mrow_len]
            split <;> split <;> omega
          simp only [aB, e1] at e2 ⊢
          rw [e2]
        · unfold lnext
          rw [if_pos hg]
          rfl
    · have hgq : z.g = z.q := by omega
      have ha : (aB z).ag = -1 := by show (if z.g < z.q then (z.g : Int) - z.p else -1) = _; rw [if_neg hq]
      have hn : (aB z).ns = msg3 z.q :: mrow (z.q + 1) (z.P - z.q - 1) := by
        show mrow z.q (z.P - z.q) = _
        rw [← mrow_cons, show z.P - z.q - 1 + 1 = z.P - z.q from by omega]
      refine (TB.next_new k ha (msg3 z.q) _ hn (by show (mrow z.p (z.q - z.p)).length < 127; rw [mrow_len]; omega)).mono ?_
      rintro e w' ⟨g8, c8, cs8, rfl, k', kp, hB, hc⟩
      refine ⟨z.g, .slice (some ⟨g8, 0, none⟩) 3 c8, ?_, by omega, fun _ => rfl, fun h => absurd hg h, ⟨rfl, fun _ => ⟨g8, c8, cs8, rfl, hB, by rw [hgq]; exact hc⟩⟩, ?_, kp⟩
      · rw [if_pos hg]
        have : ((aB z).f + ((aB z).ss.length : Int)) % 128 = (z.g : Int) := by show ((z.p : Int) + ((mrow z.p (z.q - z.p)).length : Int)) % 128 = _; rw [mrow_len]; omega
        rw [this]
        rfl
      · refine TB.to k' ?_ ?_
        · unfold lnext
          rw [if_pos hg]
          have e1 : max z.q (z.g + 1) = z.q + 1 := by omega
          have e2 : mrow z.p (z.q - z.p) ++ [msg3 z.q] = mrow z.p (z.q + 1 - z.p) := by
            have := mrow_snoc z.p (z.q - z.p)
            rw [show z.p + (z.q - z.p) = z.q from by omega, show z.q - z.p + 1 = z.q + 1 - z.p from by omega] at this
            exact this
          have e3 : z.P - z.q - 1 = z.P - (z.q + 1) := by omega
          simp only [aB, e1, e2, e3]
          rw [if_neg hq, if_neg (by omega)]
        · unfold lnext
          rw [if_pos hg]
          rfl
  · have hgP : z.g = z.P := by omega
    have hq : ¬ z.g < z.q := by omega
    have ha : (aB z).ag = -1 := by show (if z.g < z.q then (z.g : Int) - z.p else -1) = _; rw [if_neg hq]
    have hn : (aB z).ns = [] := by show mrow z.q (z.P - z.q) = []; rw [show z.P - z.q = 0 from by omega]; rfl
    refine (TB.next_fill k ha (.inl hn)).mono ?_
    rintro e w' ⟨rfl, k', kp⟩
    refine ⟨((127 + z.g) % 128 : Nat), .slice none 0 0, ?_, by omega, fun h => absurd h hg, fun _ => by omega, ⟨rfl, fun h => absurd (of_decide_eq_true h) hg⟩, ?_, kp⟩
    · rw [if_neg hg]
      have : ((aB z).f + ((aB z).ss.length : Int) - 1) % 128 = (((127 + z.g) % 128 : Nat) : Int) := by show ((z.p : Int) + ((mrow z.p (z.q - z.p)).length : Int) - 1) % 128 = _; rw [mrow_len]; omega
      rw [this]
      rfl
    · unfold lnext
      rw [if_neg hg]
      exact k'
theorem LD.nextB {W w : World} {ba ha bb hb : Nat} {z : LSt} (k : LD W w ba ha bb hb z) :
    Calls Try.prog 42 #[.pointer (some ⟨bb, 0, none⟩)] w fun e w' => e = .returned (.agg #[.int .u8 ((127 + (z.r : Int)) % 128), .int .u8 127, .bool z.bib, .bool true, .int .u8 0, .int .u8 0, .bool false, .slice none 0 0]) ∧ LD W w' ba ha bb hb z ∧ KpB w w' := by
  refine ((TB.symm k).next_fill rfl (.inl rfl)).mono ?_
  rintro e w' ⟨rfl, k', kp⟩
  exact ⟨rfl, k'.symm, kp⟩
theorem LD.answerB {W w : World} {ba ha bb hb : Nat} {z : LSt} (k : LD W w ba ha bb hb z) (fsn kind st : Int) (fib x : Bool) (iv : Value) (hiv : iv.oneCell' = true) :
    Calls Try.prog 43 #[.pointer (some ⟨bb, 0, none⟩), .agg #[.int .u8 127, .int .u8 fsn, .bool true, .bool fib, .int .u8 kind, .int .u8 st, .bool x, iv]] w fun e w' => e = .returned (.tuple #[.int .i64 0, .int .i64 0]) ∧ LD W w' ba ha bb hb z ∧ KpB w w' := by
  refine ((TB.symm k).answer_yes 127 fsn kind st true fib x iv hiv (by decide) rfl 0 rfl).mono ?_
  rintro e w' ⟨rfl, k', kp⟩
  exact ⟨rfl, k'.symm, kp⟩
theorem LD.takeA {W w : World} {ba ha bb hb : Nat} {z : LSt} (k : LD W w ba ha bb hb z) (bsn kind st : Int) (bib x : Bool) (iv : Value) (hiv : iv.oneCell' = true) :
    Calls Try.prog 38 #[.pointer (some ⟨ba, 0, none⟩), .agg #[.int .u8 bsn, .int .u8 127, .bool bib, .bool true, .int .u8 kind, .int .u8 st, .bool x, iv]] w fun e w' => e = .returned (.tuple #[.slice none 0 0, .bool false, .int .i64 0]) ∧ LD W w' ba ha bb hb z ∧ KpB w w' := TB.take_same k bsn 127 kind st bib x iv hiv rfl
theorem LD.answerA {W w : World} {ba ha bb hb : Nat} {z : LSt} (k : LD W w ba ha bb hb z) (rv : Nat) (h1 : z.p ≤ rv) (h2 : rv ≤ z.q) (h3 : z.q ≤ 39) (h4 : z.p ≤ z.g) (h5 : z.g ≤ z.q) (fsn kind st : Int) (vb fib x : Bool) (iv : Value) (hiv : iv.oneCell' = true) :
    Calls Try.prog 43 #[.pointer (some ⟨ba, 0, none⟩), .agg #[.int .u8 ((127 + (rv : Int)) % 128), .int .u8 fsn, .bool vb, .bool fib, .int .u8 kind, .int .u8 st, .bool x, iv]] w fun e w' => e = .returned (.tuple #[.int .i64 ((rv - z.p : Nat) : Int), .int .i64 0]) ∧ LD W w' ba ha bb hb (lans rv vb z) ∧ KpB w w' := by
  have hk : knowsB (aB z).f (aB z).ss.length ((127 + (rv : Int)) % 128) = true := by
    show knowsB (z.p : Int) (mrow z.p (z.q - z.p)).length _ = true
    rw [mrow_len]
    unfold knowsB
    simp only [Bool.and_eq_true, decide_eq_true_eq]
    omega
  refine (TB.answer_yes k ((127 + (rv : Int)) % 128) fsn kind st vb fib x iv hiv (by omega) hk (rv - z.p) (by show ((127 + (rv : Int)) % 128 - (z.p : Int) + 1) % 128 = _; omega)).mono ?_
  rintro e w' ⟨rfl, k', kp⟩
  refine ⟨rfl, TB.to k' ?_ rfl, kp⟩
  have e1 : ((127 + (rv : Int)) % 128 + 1) % 128 = rv := by omega
  have e2 : (mrow z.p (z.q - z.p)).drop (rv - z.p) = mrow rv (z.q - rv) := by
    rw [mrow_drop _ _ _ (by omega), show z.p + (rv - z.p) = rv from by omega, show z.q - z.p - (rv - z.p) = z.q - rv from by omega]
  have e3 : (if vb = z.fib then agFree (if z.g < z.q then (z.g : Int) - z.p else -1) (rv - z.p) (z.q - rv) else if 0 < z.q - rv then 0 else -1) = (if (if vb = z.fib then max z.g rv else rv) < z.q then (((if vb = z.fib then max z.g rv else rv : Nat)) : Int) - rv else -1) := by
    unfold agFree
    by_cases hv : vb = z.fib
    · rw [if_pos hv, if_pos hv]
      by_cases hg : z.g < z.q
      · rw [if_pos hg, show (if (0 : Int) ≤ (z.g : Int) - z.p then max 0 ((z.g : Int) - z.p - ((rv - z.p : Nat) : Int)) else (z.g : Int) - z.p) = max 0 ((z.g : Int) - z.p - ((rv - z.p : Nat) : Int)) from if_pos (by omega)]
        by_cases hm : max z.g rv < z.q
        · rw [if_pos hm, if_neg (by omega)]
          omega
        · rw [if_neg hm, if_pos (by omega)]
      · rw [if_neg hg, show (if (0 : Int) ≤ -1 then max 0 ((-1 : Int) - ((rv - z.p : Nat) : Int)) else -1) = -1 from if_neg (by decide), if_neg (show ¬ (((z.q - rv : Nat) : Int) ≤ -1) by omega), if_neg (by omega)]
    · rw [if_neg hv, if_neg hv]
      split <;> split <;> omega
  unfold ansB lans
  simp only [aB, e1, e2, mrow_len, e3]
theorem LD.takeB {W w : World} {ba ha bb hb : Nat} {z : LSt} (k : LD W w ba ha bb hb z) (uf : Bool) (x : Nat) (m : Bool) (n : Int) (hr : z.r ≤ 39) (hx : x ≤ 39) (hrx : z.r ≤ x) (hn : n = if m = true then (x : Int) else (127 + (x : Int)) % 128) (hask : uf = z.bib ∨ z.asked = true) (iv : Value) (hiv : Iv w m x iv) :
    Calls Try.prog 38 #[.pointer (some ⟨bb, 0, none⟩), .agg #[.int .u8 127, .int .u8 n, .bool true, .bool uf, .int .u8 (if m = true then 2 else 0), .int .u8 0, .bool false, iv]] w fun e w' => ∃ (sl : Value), e = .returned (.tuple #[sl, .bool (decide (uf = z.bib) && decide (x = z.r) && m), .int .i64 0]) ∧ ((decide (uf = z.bib) && decide (x = z.r) && m) = true → ∃ (g8 c8 : Nat), sl = .slice (some ⟨g8, 0, none⟩) 3 c8 ∧ w'.cell? ⟨g8, 0, none⟩ = some (.int .u8 x)) ∧ LD W w' ba ha bb hb (ltake uf x m z) ∧ KpB w w' := by
  have K := TB.symm k
  by_cases hu : uf = z.bib
  · subst hu
    by_cases hxr : x = z.r
    · cases m with
      | true =>
        obtain ⟨hiv1, hiv2⟩ := hiv
        obtain ⟨g8, c8, cs8, rfl, hB, hc⟩ := hiv2 rfl
        rw [if_pos rfl] at hn
        have hkk := K.take_msg 127 n 2 0 true false (msg3 x) g8 c8 cs8 hB hc ⟨by show 1 ≤ 3; decide, by show 3 ≤ 400; decide⟩ (by show n = ((127 + (z.r : Int)) % 128 + 1) % 128; omega) rfl
        refine hkk.mono ?_
        rintro e w' ⟨g9, c9, cs9, rfl, k', kp, hB', hc'⟩
        refine ⟨.slice (some ⟨g9, 0, none⟩) 3 c9, ?_, fun _ => ⟨g9, c9, rfl, hB'.cell 0 (hc' 0 _ rfl)⟩, ?_, kp⟩
        · rw [show (decide (z.bib = z.bib) && decide (x = z.r) && true) = true from by simp [hxr]]
          rfl
        · refine TB.to k'.symm ?_ ?_
          · unfold ltake
            rw [if_pos rfl, if_pos hxr, if_pos rfl]
            rfl
          · unfold ltake
            rw [if_pos rfl, if_pos hxr, if_pos rfl]
            have : n = (127 + ((z.r + 1 : Nat) : Int)) % 128 := by omega
            simp only [bB, this]
      | false =>
        rw [if_neg (by decide)] at hn
        have hkk := K.take_same 127 n 0 0 true false iv hiv.1 (by show n = (127 + (z.r : Int)) % 128; omega)
        refine hkk.mono ?_
        rintro e w' ⟨rfl, k', kp⟩
        refine ⟨.slice none 0 0, by simp, fun h => by simp at h, ?_, kp⟩
        refine TB.to k'.symm ?_ ?_
        · unfold ltake
          rw [if_pos rfl, if_pos hxr, if_neg (by decide)]
          rfl
        · unfold ltake
          rw [if_pos rfl, if_pos hxr, if_neg (by decide)]
          rfl
    · have hkk := K.take_gap 127 n (if m = true then 2 else 0) 0 true false iv hiv.1 (by show n ≠ (127 + (z.r : Int)) % 128; cases m <;> simp at hn <;> omega) (by show _ ∨ n ≠ ((127 + (z.r : Int)) % 128 + 1) % 128; cases m <;> simp at hn ⊢ <;> omega)
      refine hkk.mono ?_
      rintro e w' ⟨rfl, k', kp⟩
      refine ⟨.slice none 0 0, by simp [hxr], fun h => by simp [hxr] at h, ?_, kp⟩
      refine TB.to k'.symm ?_ ?_
      · unfold ltake
        rw [if_pos rfl, if_neg hxr]
        rfl
      · unfold ltake
        rw [if_pos rfl, if_neg hxr]
        rfl
  · have hask2 : z.asked = true := hask.resolve_left hu
    have hkk := K.take_odd 127 n (if m = true then 2 else 0) 0 true uf false iv hiv.1 (by show uf = !z.bib; revert hu; cases uf <;> cases z.bib <;> simp) hask2
    refine hkk.mono ?_
    rintro e w' ⟨rfl, k', kp⟩
    refine ⟨.slice none 0 0, by simp [hu], fun h => by simp [hu] at h, ?_, kp⟩
    refine TB.to k'.symm ?_ ?_
    · unfold ltake
      rw [if_neg hu]
    · unfold ltake
      rw [if_neg hu]
      rfl
end Go.Proofs.Ytadheikcgdhcdaa
