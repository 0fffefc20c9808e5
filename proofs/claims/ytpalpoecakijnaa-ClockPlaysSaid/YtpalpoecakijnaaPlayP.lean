/-
  JamPlays, the plain law of a tick: timer by timer.
-/
import Derived.Test.YtpalpoecakijnaaActs
namespace Go.Proofs.Ytpalpoecakijnaa
open Go.RowKit
set_option linter.unusedVariables false
set_option linter.unusedSimpArgs false

def again (own : Bool) (l : List Int) (n : Nat) : Prop := 5 < n ∧ l.getD 5 0 = 1 ∧ own = true
instance (own : Bool) (l : List Int) (n : Nat) : Decidable (again own l n) := by unfold again; infer_instance
def tk (own : Bool) (l : List Int) (n : Nat) : List Int := if again own l n then (tickL l).set 5 7 else tickL l
def tdue (own due : Bool) (l : List Int) (n : Nat) : Bool := if again own l n then true else due
def lf (own : Bool) (l : List Int) (n : Nat) : List Int := (tk own l n).take n ++ l.drop n

theorem eight {l : List Int} (h : l.length = 8) : ∃ a0 a1 a2 a3 a4 a5 a6 a7, l = [a0, a1, a2, a3, a4, a5, a6, a7] := by
  obtain ⟨a0, l, rfl⟩ := List.exists_cons_of_length_pos (show 0 < l.length by omega)
  obtain ⟨a1, l, rfl⟩ := List.exists_cons_of_length_pos (show 0 < l.length by simp at h; omega)
  obtain ⟨a2, l, rfl⟩ := List.exists_cons_of_length_pos (show 0 < l.length by simp at h; omega)
  obtain ⟨a3, l, rfl⟩ := List.exists_cons_of_length_pos (show 0 < l.length by simp at h; omega)
  obtain ⟨a4, l, rfl⟩ := List.exists_cons_of_length_pos (show 0 < l.length by simp at h; omega)
  obtain ⟨a5, l, rfl⟩ := List.exists_cons_of_length_pos (show 0 < l.length by simp at h; omega)
  obtain ⟨a6, l, rfl⟩ := List.exists_cons_of_length_pos (show 0 < l.length by simp at h; omega)
  obtain ⟨a7, l, rfl⟩ := List.exists_cons_of_length_pos (show 0 < l.length by simp at h; omega)
  obtain rfl : l = [] := by simpa using h
  exact ⟨_, _, _, _, _, _, _, _, rfl⟩
theorem again_same {own : Bool} {l : List Int} {n : Nat} (h : l.getD n 0 ≠ 1 ∨ n ≠ 5 ∨ own = false) : again own l (n + 1) ↔ again own l n := by
  unfold again
  constructor
  · rintro ⟨h1, h2, h3⟩
    refine ⟨?_, h2, h3⟩
    rcases h with h | h | h
    · by_cases e : n = 5
      · subst e; exact absurd h2 h
      · omega
    · omega
    · rw [h] at h3; cases h3
  · rintro ⟨h1, h2, h3⟩
    exact ⟨by omega, h2, h3⟩
theorem tk_same {own : Bool} {l : List Int} {n : Nat} (h : l.getD n 0 ≠ 1 ∨ n ≠ 5 ∨ own = false) : tk own l (n + 1) = tk own l n := by
  unfold tk; simp only [again_same h]
theorem tdue_same {own due : Bool} {l : List Int} {n : Nat} (h : l.getD n 0 ≠ 1 ∨ n ≠ 5 ∨ own = false) : tdue own due l (n + 1) = tdue own due l n := by
  unfold tdue; simp only [again_same h]
theorem lf_len {own : Bool} {l : List Int} (h : l.length = 8) (n : Nat) (hn : n ≤ 8) : (lf own l n).length = 8 := by
  unfold lf tk
  split <;> simp [tickL, h] <;> omega
theorem lf_at {own : Bool} {l : List Int} (h : l.length = 8) (n : Nat) (hn : n < 8) : (lf own l n).getD n 0 = l.getD n 0 := by
  obtain ⟨a0, a1, a2, a3, a4, a5, a6, a7, rfl⟩ := eight h
  rcases (by omega : n = 0 ∨ n = 1 ∨ n = 2 ∨ n = 3 ∨ n = 4 ∨ n = 5 ∨ n = 6 ∨ n = 7) with rfl | rfl | rfl | rfl | rfl | rfl | rfl | rfl <;> unfold lf tk <;> split <;> simp [tickL]
theorem lf_succ {own : Bool} {l : List Int} (h : l.length = 8) (n : Nat) (hn : n < 8) (hs : l.getD n 0 ≠ 1 ∨ n ≠ 5 ∨ own = false) : lf own l (n + 1) = (lf own l n).set n (dec1 (l.getD n 0)) := by
  have ht := tk_same hs
  obtain ⟨a0, a1, a2, a3, a4, a5, a6, a7, rfl⟩ := eight h
  unfold lf
  rw [ht]
  unfold tk
  split
  · rename_i ha
    have := ha.1
    rcases (by omega : n = 6 ∨ n = 7) with rfl | rfl <;> simp [tickL]
  · rcases (by omega : n = 0 ∨ n = 1 ∨ n = 2 ∨ n = 3 ∨ n = 4 ∨ n = 5 ∨ n = 6 ∨ n = 7) with rfl | rfl | rfl | rfl | rfl | rfl | rfl | rfl <;> simp [tickL]
theorem lf_again {l : List Int} (h : l.length = 8) (h1 : l.getD 5 0 = 1) : lf true l 6 = ((lf true l 5).set 5 0).set 5 7 ∧ tk true l 6 = (tickL l).set 5 7 ∧ tk true l 5 = tickL l := by
  obtain ⟨a0, a1, a2, a3, a4, a5, a6, a7, rfl⟩ := eight h
  have h6 : again true [a0, a1, a2, a3, a4, a5, a6, a7] 6 := ⟨by decide, h1, rfl⟩
  have h5 : ¬ again true [a0, a1, a2, a3, a4, a5, a6, a7] 5 := fun h => absurd h.1 (by decide)
  refine ⟨?_, ?_, ?_⟩
  · unfold lf tk; rw [if_pos h6, if_neg h5]; simp [tickL]
  · unfold tk; rw [if_pos h6]
  · unfold tk; rw [if_neg h5]
theorem lf_end {own : Bool} {l : List Int} (h : l.length = 8) : lf own l 8 = tk own l 8 := by
  obtain ⟨a0, a1, a2, a3, a4, a5, a6, a7, rfl⟩ := eight h
  unfold lf tk
  split <;> simp [tickL]
theorem lf_begin {own : Bool} {l : List Int} : lf own l 0 = l ∧ tk own l 0 = tickL l := by
  have h0 : ¬ again own l 0 := fun h => absurd h.1 (by decide)
  unfold lf tk
  rw [if_neg h0]
  simp
theorem tickO_mem (l : List Int) (n : Nat) : ∀ d, ∃ r, tickO l (n + d) = tickO l n ++ r := by
  intro d
  induction d with
  | zero => exact ⟨[], by simp⟩
  | succ d ih =>
    obtain ⟨r, hr⟩ := ih
    by_cases h : l.getD (n + d) 0 = 1
    · exact ⟨r ++ [((n + d : Nat) : Int)], by rw [show n + (d + 1) = n + d + 1 from rfl, tickO_yes _ _ h, hr, List.append_assoc]⟩
    · exact ⟨r, by rw [show n + (d + 1) = n + d + 1 from rfl, tickO_no _ _ h, hr]⟩
theorem tickO_at (l : List Int) (n : Nat) (hn : n < 8) (h : l.getD n 0 = 1) : (tickO l n).length < (tickO l 8).length ∧ (tickO l 8).getD (tickO l n).length 0 = (n : Int) := by
  obtain ⟨r, hr⟩ := tickO_mem l (n + 1) (7 - n)
  rw [show n + 1 + (7 - n) = 8 from by omega, tickO_yes l n h] at hr
  rw [hr]
  constructor
  · simp
  · simp [List.getD_eq_getElem?_getD]
end Go.Proofs.Ytpalpoecakijnaa
