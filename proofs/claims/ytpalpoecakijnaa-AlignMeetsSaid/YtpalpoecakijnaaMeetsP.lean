/-
  AlignMeets, the plain law: two sides in step, tick by tick.
-/
import Derived.Test.YtpalpoecakijnaaAlignTries
namespace Go.Proofs.Ytpalpoecakijnaa
open Go.RowKit
set_option linter.unusedVariables false
set_option linter.unusedSimpArgs false

abbrev mT : List Int := [30, 999, 900, 900, 50, 5, 9, 9]
abbrev z8 : List Int := [0, 0, 0, 0, 0, 0, 0, 0]
def mM (own oth : Bool) : Int := if (own || oth) = true then 30 else 50
def sta (own : Bool) : Int := if own = true then 2 else 1
/-- A side that has begun, ahead of tick t: near from N on, proved from P on. -/
def Mt (own oth : Bool) (N P t : Int) (s : AS) : Prop :=
  (t ≤ N ∧ ∃ x, 900 ≤ x + t ∧ x ≤ 900 ∧ s = ⟨1, own, false, false, 0, 0, [0, 0, x, 0, 0, 0, 0, 0]⟩) ∨
  (N < t ∧ t ≤ P ∧ ∃ x, 900 ≤ x + t ∧ x ≤ 900 ∧ s = ⟨2, own, false, false, 0, 0, [0, 0, 0, x, 0, 0, 0, 0]⟩) ∨
  (P < t ∧ t ≤ P + mM own oth ∧ ∃ x, x + t = P + mM own oth + 1 ∧ s = ⟨3, own, oth, own || oth, 0, 0, if (own || oth) = true then [x, 0, 0, 0, 0, 0, 0, 0] else [0, 0, 0, 0, x, 0, 0, 0]⟩) ∨
  (P + mM own oth < t ∧ s = ⟨0, own, false, own || oth, 0, 0, z8⟩)
def sndM (own oth : Bool) (N P t : Int) : Int := if t ≤ N then 0 else if t ≤ P + mM own oth then sta own else 3

theorem mM_pos (own oth : Bool) : 30 ≤ mM own oth ∧ mM own oth ≤ 50 := by cases own <;> cases oth <;> decide
theorem mt_sends {own oth : Bool} {N P t : Int} {s : AS} (hNP : N < P) (h : Mt own oth N P t s) : aSends s = sndM own oth N P t := by
  have hm := mM_pos own oth
  rcases h with ⟨h1, x, h2, h3, rfl⟩ | ⟨h0, h1, x, h2, h3, rfl⟩ | ⟨h0, h1, x, h2, rfl⟩ | ⟨h0, rfl⟩ <;> unfold sndM
  · rw [if_pos h1]; rfl
  · rw [if_neg (by omega), if_pos (by omega)]; cases own <;> rfl
  · rw [if_neg (show ¬ t ≤ N by omega), if_pos h1]; cases own <;> rfl
  · rw [if_neg (by omega), if_neg (by omega)]; rfl

theorem mt_step {own oth : Bool} {N P t : Int} {s : AS} (hNP : N < P) (h0 : 0 ≤ t) (h9 : t ≤ 400) (h : Mt own oth N P t s) :
    (tickO s.l 8 = [] ∧ t ≠ P + mM own oth ∧ ((s.st = 0 ∧ Mt own oth N P (t + 1) { s with l := tickL s.l }) ∨
      ((1 ≤ s.st ∧ s.st ≤ 3) ∧ (t < N ∨ P < t → Mt own oth N P (t + 1) { s with l := tickL s.l }) ∧
       (N ≤ t → t < P → aHeardWhy 0 { s with l := tickL s.l } = 0 ∧ Mt own oth N P (t + 1) (aHeard mT 0 { s with l := tickL s.l })) ∧
       (P ≤ t → aHeardWhy (sta oth) { s with l := tickL s.l } = 0 ∧ Mt own oth N P (t + 1) (aHeard mT (sta oth) { s with l := tickL s.l }))))) ∨
    (∃ tm, tickO s.l 8 = [tm] ∧ t = P + mM own oth ∧ aOutWhy tm { s with l := tickL s.l } = 0 ∧ aDone tm { s with l := tickL s.l } = true ∧ (aOut tm { s with l := tickL s.l }).st = 0 ∧ Mt own oth N P (t + 1) (aOut tm { s with l := tickL s.l })) := by
  have hm := mM_pos own oth
  rcases h with ⟨h1, x, h2, h3, rfl⟩ | ⟨h4, h1, x, h2, h3, rfl⟩ | ⟨h4, h1, x, h2, rfl⟩ | ⟨h4, rfl⟩
  · left
    have c1 : x ≠ 1 := by omega
    have c0 : 0 < x := by omega
    refine ⟨by simp [tickO, List.range, List.range.loop, c1], by omega, .inr ⟨⟨by simp, by simp⟩, ?_, ?_, ?_⟩⟩
    · intro hh
      exact .inl ⟨by omega, x - 1, by omega, by omega, by simp [tickL, dec1, c0]⟩
    · intro g1 g2
      refine ⟨by simp [aHeardWhy], .inr (.inl ⟨by omega, by omega, 900, by omega, by omega, ?_⟩)⟩
      cases own <;> simp [aHeard, aNear, tickL, dec1, c0, stopL, startL, tOk, sOk]
    · intro g1
      omega
  · left
    have c1 : x ≠ 1 := by omega
    have c0 : 0 < x := by omega
    refine ⟨by simp [tickO, List.range, List.range.loop, c1], by omega, .inr ⟨⟨by simp, by simp⟩, ?_, ?_, ?_⟩⟩
    · intro hh
      omega
    · intro g1 g2
      refine ⟨by simp [aHeardWhy], .inr (.inl ⟨by omega, by omega, x - 1, by omega, by omega, ?_⟩)⟩
      cases own <;> simp [aHeard, aNear, tickL, dec1, c0, stopL, startL, tOk, sOk]
    · intro g1
      refine ⟨by cases oth <;> simp [aHeardWhy, sta], .inr (.inr (.inl ⟨by omega, by omega, mM own oth, by omega, ?_⟩))⟩
      cases own <;> cases oth <;> simp [aHeard, aNear, aProve, tickL, dec1, c0, stopL, startL, tOk, sOk, sta, mM]
  · by_cases c1 : x = 1
    · right
      subst c1
      have ht : t = P + mM own oth := by omega
      refine ⟨if (own || oth) = true then 0 else 4, ?_, ht, ?_, ?_, ?_, .inr (.inr (.inr ⟨by omega, ?_⟩))⟩ <;> cases own <;> cases oth <;> first | decide | rfl | simp [aOut, aDone, aEnd, tickL, dec1, stopL, tOk, aOutWhy]
    · left
      have c0 : 0 < x := by omega
      refine ⟨?_, by omega, .inr ⟨⟨by simp, by simp⟩, ?_, ?_, ?_⟩⟩
      · cases own <;> cases oth <;> simp [tickO, List.range, List.range.loop, c1]
      · intro hh
        refine .inr (.inr (.inl ⟨by omega, by omega, x - 1, by omega, ?_⟩))
        cases own <;> cases oth <;> simp [tickL, dec1, c0]
      · intro g1 g2
        omega
      · intro g1
        refine ⟨by cases oth <;> simp [aHeardWhy, sta], .inr (.inr (.inl ⟨by omega, by omega, x - 1, by omega, ?_⟩))⟩
        cases own <;> cases oth <;> simp [aHeard, aNear, aProve, tickL, dec1, c0, stopL, startL, tOk, sOk, sta, mM]
  · left
    refine ⟨by simp [tickO, List.range, List.range.loop], by omega, .inl ⟨rfl, .inr (.inr (.inr ⟨by omega, ?_⟩))⟩⟩
    simp [tickL, dec1]

/-- When each side is near, is proved. -/
def mN (d g : Int) (k : Nat) : Int := if k = 0 then g + d else max g d
def mP (d g : Int) (k : Nat) : Int := if k = 0 then max g d + 1 + d else g + 2 * d + 1
def mB (g : Int) (k : Nat) : Int := if k = 0 then -1 else g
def ow (own oth : Bool) (k : Nat) : Bool := if k = 0 then own else oth
def mE (own oth : Bool) (d g : Int) (k : Nat) : Int := mP d g k + mM own oth
/-- What a side tells at a tick. -/
def mS (own oth : Bool) (d g : Int) (k : Nat) (t : Int) : Int := if t < mB g k then 3 else sndM (ow own oth k) (ow own oth (1 - k)) (mN d g k) (mP d g k) t
/-- A side, when it has begun or not, ahead of tick t. -/
def Sd (own oth : Bool) (d g : Int) (k : Nat) (beg : Prop) (t : Int) (s : AS) : Prop :=
  (¬ beg ∧ s = ⟨0, ow own oth k, false, false, 0, 0, z8⟩) ∨ (beg ∧ Mt (ow own oth k) (ow own oth (1 - k)) (mN d g k) (mP d g k) t s)
theorem mM_both (own oth : Bool) (k : Nat) : mM (ow own oth k) (ow own oth (1 - k)) = mM own oth := by
  rcases k with _ | _ | k <;> simp [ow, mM, Bool.or_comm]
theorem sd_sends {own oth : Bool} {d g t : Int} {k : Nat} {s : AS} (hd : 1 ≤ d) (hg : 0 ≤ g) (h : Sd own oth d g k (mB g k ≤ t) t s) : aSends s = mS own oth d g k t := by
  unfold mS
  rcases h with ⟨h1, rfl⟩ | ⟨h1, h2⟩
  · rw [if_pos (by omega)]; rfl
  · rw [if_neg (by omega)]; exact mt_sends (by unfold mN mP; split <;> omega) h2
theorem mS_bd (own oth : Bool) (d g : Int) (k : Nat) (t : Int) : 0 ≤ mS own oth d g k t ∧ mS own oth d g k t ≤ 3 := by
  unfold mS sndM sta
  repeat' split
  all_goals decide
theorem sd_begin {own oth : Bool} {d g : Int} {s : AS} (hg : 0 ≤ g) (hd : 1 ≤ d) (h : Sd own oth d g 1 (mB g 1 < g) g s) : Sd own oth d g 1 (mB g 1 ≤ g) g (aBegin mT s) := by
  rcases h with ⟨h1, rfl⟩ | ⟨h1, h2⟩
  · right
    refine ⟨by unfold mB; simp, .inl ⟨by unfold mN; simp; omega, 900, by omega, by omega, ?_⟩⟩
    simp [aBegin, stopL, startL, tOk, sOk]
  · exact absurd h1 (by unfold mB; simp)
theorem sd_go {own oth : Bool} {d g t : Int} {k : Nat} {s : AS} (hne : t ≠ mB g k) (h : Sd own oth d g k (mB g k < t) t s) : Sd own oth d g k (mB g k ≤ t) t s := by
  rcases h with ⟨h1, h2⟩ | ⟨h1, h2⟩
  · exact .inl ⟨by omega, h2⟩
  · exact .inr ⟨by omega, h2⟩
theorem mS_val (own oth : Bool) (d g : Int) (k : Nat) (u : Int) : mS own oth d g k u = if u < mB g k then 3 else if u ≤ mN d g k then 0 else if u ≤ mP d g k + mM own oth then sta (ow own oth k) else 3 := by
  unfold mS sndM
  rw [mM_both]
theorem sta_ne (b : Bool) : sta b ≠ 3 ∧ sta b ≠ 0 := by cases b <;> decide
/-- Nothing is heard only ahead of N, or behind P. -/
theorem mS_none {own oth : Bool} {d g t : Int} {k : Nat} (hk : k < 2) (hd : 1 ≤ d ∧ d ≤ 40) (hg : 0 ≤ g ∧ g ≤ 59) (h : t < d ∨ mS own oth d g (1 - k) (t - d) = 3) : t < mN d g k ∨ mP d g k < t := by
  have hm := mM_pos own oth
  have hs := sta_ne (ow own oth (1 - k))
  rcases h with h | h
  · left; unfold mN; split <;> omega
  · rw [mS_val] at h
    rcases (by omega : k = 0 ∨ k = 1) with rfl | rfl
    · simp only [mB, mN, mP, Nat.sub_zero, if_pos, if_true, Nat.one_ne_zero, if_false] at h ⊢
      split at h
      · omega
      · split at h
        · omega
        · split at h
          · exact absurd h hs.1
          · omega
    · simp only [mB, mN, mP, Nat.sub_self, if_pos, if_true, Nat.one_ne_zero, if_false] at h ⊢
      split at h
      · omega
      · split at h
        · omega
        · split at h
          · exact absurd h hs.1
          · omega
theorem mS_some {own oth : Bool} {d g t : Int} {k : Nat} (hk : k < 2) (hd : 1 ≤ d ∧ d ≤ 40) (hg : 0 ≤ g ∧ g ≤ 59) (hb : mB g k ≤ t) (ht : d ≤ t) (h : mS own oth d g (1 - k) (t - d) ≠ 3) :
    (mN d g k ≤ t ∧ t < mP d g k ∧ mS own oth d g (1 - k) (t - d) = 0) ∨ (mP d g k ≤ t ∧ mS own oth d g (1 - k) (t - d) = sta (ow own oth (1 - k))) := by
  have hm := mM_pos own oth
  rw [mS_val] at h ⊢
  rcases (by omega : k = 0 ∨ k = 1) with rfl | rfl
  · simp only [mB, mN, mP, Nat.sub_zero, if_pos, if_true, Nat.one_ne_zero, if_false] at h hb ⊢
    split at h
    · omega
    · rw [if_neg (by assumption)]
      split at h
      · left; rw [if_pos (by assumption)]; omega
      · right
        rw [if_neg (by assumption)]
        split at h
        · rw [if_pos (by assumption)]; exact ⟨by omega, rfl⟩
        · exact absurd rfl h
  · simp only [mB, mN, mP, Nat.sub_self, if_pos, if_true, Nat.one_ne_zero, if_false] at h hb ⊢
    split at h
    · omega
    · rw [if_neg (by assumption)]
      split at h
      · left; rw [if_pos (by assumption)]; omega
      · right
        rw [if_neg (by assumption)]
        split at h
        · rw [if_pos (by assumption)]; exact ⟨by omega, rfl⟩
        · exact absurd rfl h
/-- One tick of one side. -/
theorem sd_step {own oth : Bool} {d g t : Int} {k : Nat} {s : AS} (hk : k < 2) (hd : 1 ≤ d ∧ d ≤ 40) (hg : 0 ≤ g ∧ g ≤ 59) (h0 : 0 ≤ t) (h9 : t ≤ 400) (h : Sd own oth d g k (mB g k ≤ t) t s) :
    (tickO s.l 8 = [] ∧ t ≠ mE own oth d g k ∧ (0 ≤ s.st ∧ s.st ≤ 3) ∧ (s.st = 0 ∨ t < d ∨ mS own oth d g (1 - k) (t - d) = 3 → Sd own oth d g k (mB g k < t + 1) (t + 1) { s with l := tickL s.l }) ∧
      (s.st ≠ 0 → d ≤ t → mS own oth d g (1 - k) (t - d) ≠ 3 → aHeardWhy (mS own oth d g (1 - k) (t - d)) { s with l := tickL s.l } = 0 ∧ Sd own oth d g k (mB g k < t + 1) (t + 1) (aHeard mT (mS own oth d g (1 - k) (t - d)) { s with l := tickL s.l }))) ∨
    (∃ tm, tickO s.l 8 = [tm] ∧ t = mE own oth d g k ∧ aOutWhy tm { s with l := tickL s.l } = 0 ∧ aDone tm { s with l := tickL s.l } = true ∧ (aOut tm { s with l := tickL s.l }).st = 0 ∧ Sd own oth d g k (mB g k < t + 1) (t + 1) (aOut tm { s with l := tickL s.l })) := by
  have hmb := mM_both own oth k
  have hmb' := mM_both own oth (1 - k)
  have hm := mM_pos own oth
  have hNP : mN d g k < mP d g k := by unfold mN mP; split <;> omega
  unfold mE
  rcases h with ⟨h1, rfl⟩ | ⟨h1, h2⟩
  · left
    have hB : mB g k ≤ g := by unfold mB; split <;> omega
    have hP : g < mP d g k := by unfold mP; split <;> omega
    refine ⟨by simp [tickO, List.range, List.range.loop], by omega, ⟨by simp, by simp⟩, fun _ => .inl ⟨by omega, by simp [tickL, dec1]⟩, fun h => absurd rfl h⟩
  · rcases mt_step hNP h0 h9 h2 with ⟨a1, a2, a3⟩ | ⟨tm, a1, a2, a3, a4, a5, a6⟩
    · left
      rw [hmb] at a2
      refine ⟨a1, a2, by rcases a3 with ⟨a3, _⟩ | ⟨a3, _⟩ <;> omega, ?_, ?_⟩
      · intro hh
        refine .inr ⟨by omega, ?_⟩
        rcases a3 with ⟨_, a4⟩ | ⟨a5, a4, _, _⟩
        · exact a4
        · refine a4 (mS_none (own := own) (oth := oth) hk hd hg ?_)
          rcases hh with hh | hh
          · omega
          · exact hh
      · intro g1 g2 g3
        rcases a3 with ⟨a3, _⟩ | ⟨_, _, a4, a5⟩
        · exact absurd a3 g1
        · rcases mS_some hk hd hg h1 g2 g3 with ⟨b1, b2, b3⟩ | ⟨b1, b3⟩
          · rw [b3]; exact ⟨(a4 b1 b2).1, .inr ⟨by omega, (a4 b1 b2).2⟩⟩
          · rw [b3]; exact ⟨(a5 b1).1, .inr ⟨by omega, (a5 b1).2⟩⟩
    · right
      rw [hmb] at a2
      exact ⟨tm, a1, a2, a3, a4, a5, .inr ⟨by omega, a6⟩⟩
end Go.Proofs.Ytpalpoecakijnaa
