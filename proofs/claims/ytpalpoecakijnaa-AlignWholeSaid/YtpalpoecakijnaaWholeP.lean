/-
  AlignWhole, the plain law: how long it has been tried, and what its timers have left.
-/
import Derived.Test.YtpalpoecakijnaaAlignTries
namespace Go.Proofs.Ytpalpoecakijnaa
open Go.RowKit
set_option linter.unusedVariables false
set_option linter.unusedSimpArgs false

abbrev wT : List Int := [6, 99, 99, 99, 20, 5, 9, 9]
def Wh (s : AS) (since : Int) : Prop :=
  (s.st = 1 ∧ since = -1 ∧ ∃ x, 1 ≤ x ∧ s.l = [0, 0, x, 0, 0, 0, 0, 0]) ∨
  (s.st = 2 ∧ since = -1 ∧ ∃ x, 1 ≤ x ∧ s.l = [0, 0, 0, x, 0, 0, 0, 0]) ∨
  (s.st = 3 ∧ 0 ≤ since ∧ s.ph = true ∧ ∃ x, 1 ≤ x ∧ 6 ≤ x + since ∧ s.l = [x, 0, 0, 0, 0, 0, 0, 0]) ∨
  (s.st = 3 ∧ 0 ≤ since ∧ s.ph = false ∧ ∃ x, 1 ≤ x ∧ 20 ≤ x + since ∧ s.l = [0, 0, 0, 0, x, 0, 0, 0])

theorem wh_st {s : AS} {since : Int} (h : Wh s since) : 1 ≤ s.st ∧ s.st ≤ 3 := by
  rcases h with ⟨h, -⟩ | ⟨h, -⟩ | ⟨h, -⟩ | ⟨h, -⟩ <;> omega
theorem wh_since {s : AS} {since : Int} (h : Wh s since) : -1 ≤ since := by
  rcases h with ⟨_, h, -⟩ | ⟨_, h, -⟩ | ⟨_, h, -⟩ | ⟨_, h, -⟩ <;> omega
theorem wh_three {s : AS} {since : Int} (h : Wh s since) (h3 : s.st = 3) : 0 ≤ since := by
  rcases h with ⟨h, -⟩ | ⟨h, -⟩ | ⟨_, h, -⟩ | ⟨_, h, -⟩ <;> omega

theorem whole_heard (s : AS) (since q : Int) (hq : 0 ≤ q ∧ q ≤ 2) (h : Wh s since) :
    ((aHeard wT q s).st ≠ 3 ∧ Wh (aHeard wT q s) (-1) ∨ (aHeard wT q s).st = 3 ∧ s.st = 3 ∧ Wh (aHeard wT q s) since ∨ (aHeard wT q s).st = 3 ∧ s.st ≠ 3 ∧ Wh (aHeard wT q s) 0) ∧
    ((aHeard wT q s).pn = s.pn ∨ (aHeard wT q s).pn = 0) ∧ ((aHeard wT q s).pt = s.pt ∨ (aHeard wT q s).pt = 0) := by
  obtain ⟨st, own, their, ph, pn, pt, l⟩ := s
  rcases h with ⟨h1, h2, x, h3, h4⟩ | ⟨h1, h2, x, h3, h4⟩ | ⟨h1, h2, h0, x, h3, h5, h4⟩ | ⟨h1, h2, h0, x, h3, h5, h4⟩ <;> simp only at * <;> subst h1 h4 <;> try subst h0
  all_goals rcases (by omega : q = 0 ∨ q = 1 ∨ q = 2) with rfl | rfl | rfl <;> cases own <;> cases their
  all_goals simp [aHeard, aNear, aProve, Wh, stopL, startL, tOk, sOk, *]
  all_goals omega
theorem whole_unit (s : AS) (since : Int) (h : Wh s since) (hy : aUnitWhy true s = 0) (hb : 0 ≤ s.pn ∧ 0 ≤ s.pt) :
    ((aUnit wT true s).pt ≠ s.pt ∧ Wh (aUnit wT true s) 0 ∨ (aUnit wT true s).pt = s.pt ∧ Wh (aUnit wT true s) since) ∧
    (0 ≤ (aUnit wT true s).pn ∧ (aUnit wT true s).pn ≤ s.pn + 1) ∧ (0 ≤ (aUnit wT true s).pt ∧ (aUnit wT true s).pt ≤ s.pt + 1) := by
  obtain ⟨st, own, their, ph, pn, pt, l⟩ := s
  rcases h with ⟨h1, h2, x, h3, h4⟩ | ⟨h1, h2, x, h3, h4⟩ | ⟨h1, h2, h0, x, h3, h5, h4⟩ | ⟨h1, h2, h0, x, h3, h5, h4⟩ <;> simp only at * <;> subst h1 h4 <;> try subst h0
  · simp [aUnit, Wh, *]; omega
  · simp [aUnit, Wh, *]; omega
  · by_cases c : pAnew true pn true = true
    · have h5 : ¬ 5 ≤ pt + 1 := by intro h; simp [aUnitWhy, c, h] at hy
      cases own <;> cases their <;> simp [aUnit, c, h5, aProve, Wh, stopL, startL, tOk, sOk] <;> omega
    · simp [aUnit, c, Wh, pN, *]; omega
  · by_cases c : pAnew false pn true = true
    · have h5 : ¬ 5 ≤ pt + 1 := by intro h; simp [aUnitWhy, c, h] at hy
      cases own <;> cases their <;> simp [aUnit, c, h5, aProve, Wh, stopL, startL, tOk, sOk] <;> omega
    · simp [aUnit, c, Wh, pN, *]; omega
def sinceT (since : Int) : Int := if 0 ≤ since then since + 1 else since
theorem whole_tick (s : AS) (since : Int) (h : Wh s since) :
    (tickO s.l 8 = [] ∧ Wh { s with l := tickL s.l } (sinceT since)) ∨ (∃ t, tickO s.l 8 = [t] ∧ ((t = 2 ∧ s.st = 1) ∨ (t = 3 ∧ s.st = 2) ∨ (s.st = 3 ∧ t = 0 ∧ 6 ≤ sinceT since) ∨ (s.st = 3 ∧ t = 4 ∧ 20 ≤ sinceT since))) := by
  obtain ⟨st, own, their, ph, pn, pt, l⟩ := s
  rcases h with ⟨h1, h2, x, h3, h4⟩ | ⟨h1, h2, x, h3, h4⟩ | ⟨h1, h2, h0, x, h3, h5, h4⟩ | ⟨h1, h2, h0, x, h3, h5, h4⟩ <;> simp only at * <;> subst h1 h4 <;> try subst h0
  all_goals by_cases c : x = 1
  · subst c; right; exact ⟨2, by decide, .inl ⟨rfl, rfl⟩⟩
  · left; subst h2; simp [tickO, List.range, List.range.loop, c, tickL, dec1, Wh, sinceT]; omega
  · subst c; right; exact ⟨3, by decide, .inr (.inl ⟨rfl, rfl⟩)⟩
  · left; subst h2; simp [tickO, List.range, List.range.loop, c, tickL, dec1, Wh, sinceT]; omega
  · subst c; right; exact ⟨0, by decide, .inr (.inr (.inl ⟨rfl, rfl, by unfold sinceT; rw [if_pos h2]; omega⟩))⟩
  · left; simp [tickO, List.range, List.range.loop, c, tickL, dec1, Wh, sinceT, h2]; omega
  · subst c; right; exact ⟨4, by decide, .inr (.inr (.inr ⟨rfl, rfl, by unfold sinceT; rw [if_pos h2]; omega⟩))⟩
  · left; simp [tickO, List.range, List.range.loop, c, tickL, dec1, Wh, sinceT, h2]; omega
end Go.Proofs.Ytpalpoecakijnaa
