/-
  More contracts of align's functions: a status, a unit, a timer, an emergency.
-/
import Derived.Test.YtpalpoecakijnaaAlign
namespace Go.Proofs.Ytpalpoecakijnaa
open Go.RowKit
set_option linter.unusedVariables false
set_option linter.unusedSimpArgs false

/-- One more unit, right or not. -/
def aUnit (T : List Int) (wrong : Bool) (s : AS) : AS :=
  if s.st = 3 then (if pAnew s.ph s.pn wrong = true then (if 5 ≤ s.pt + 1 then { s with pn := 0, pt := s.pt + 1 } else aProve T { s with pn := 0, pt := s.pt + 1 }) else { s with pn := pN s.pn wrong }) else s
def aUnitWhy (wrong : Bool) (s : AS) : Int := if s.st = 3 ∧ pAnew s.ph s.pn wrong = true ∧ 5 ≤ s.pt + 1 then 5 else 0

/-- A status came. -/
def aHeard (T : List Int) (status : Int) (s : AS) : AS :=
  if s.st = 0 then s else
    let s1 : AS := if status = 2 then { s with their := true } else s
    if status = 3 ∧ s.st ≠ 1 then s1
    else if s.st = 1 ∧ (status = 1 ∨ status = 2 ∨ status = 0) then aNear T s1
    else if s.st = 2 ∧ (status = 1 ∨ status = 2) then aProve T { s1 with ph := false, pn := 0, pt := 0 }
    else if s.st = 3 ∧ status = 0 then aNear T s1
    else if s.st = 3 ∧ (s.own || s.their) = false ∧ (s1.own || s1.their) = true then aProve T s1
    else s1
def aHeardWhy (status : Int) (s : AS) : Int := if s.st ≠ 0 ∧ status = 3 ∧ s.st ≠ 1 then 8 else 0

def aHurry (T : List Int) (on : Bool) (s : AS) : AS :=
  if s.st = 3 ∧ (s.own || s.their) = false ∧ on = true then aProve T { s with own := on } else { s with own := on }

/-- A timer ran out. -/
def aDone (t : Int) (s : AS) : Bool := decide (s.st = 3 ∧ (t = 4 ∨ t = 0))
def aOutWhy (t : Int) (s : AS) : Int := if (t = 2 ∧ s.st = 1) ∨ (t = 3 ∧ s.st = 2) then 7 else 0
def aOut (t : Int) (s : AS) : AS := if aDone t s = true then aEnd s else s

def aSends (s : AS) : Int := if s.st = 0 then 3 else if s.st = 1 then 0 else if s.own = true then 2 else 1

theorem asends_any (j c : Nat) (S : List Value) (T : List Int) (s : AS) (w : World) (h : AC w j c S T s) :
    Calls Try.prog 40 #[.pointer (some ⟨j, 0, none⟩)] w fun e w' => e = .returned (.int .u8 (aSends s)) ∧ w = w' := by
  have h14 := h.st
  have h15 := h.own
  obtain ⟨st, own, their, ph, pn, pt, l⟩ := s
  by_cases h0 : st = 0
  · subst h0
    go_enter Try.func40, Try.ntmps40
    go_wp2
    go_ret
    exact ⟨rfl, rfl⟩
  · have e0 : (st == 0) = false := by simp [h0]
    by_cases h1 : st = 1
    · subst h1
      go_enter Try.func40, Try.ntmps40
      go_wp2
      go_ret
      exact ⟨rfl, rfl⟩
    · have e1 : (st == 1) = false := by simp [h1]
      cases own
      · have hv : Hid (aSends ⟨st, false, their, ph, pn, pt, l⟩ = 1) := by show aSends _ = 1; unfold aSends; rw [if_neg h0, if_neg h1]; rfl
        clear h0 h1
        go_enter Try.func40, Try.ntmps40
        go_wp2
        go_ret
        exact ⟨ret_int (by rw [hv.out]), rfl⟩
      · have hv : Hid (aSends ⟨st, true, their, ph, pn, pt, l⟩ = 2) := by show aSends _ = 2; unfold aSends; rw [if_neg h0, if_neg h1]; rfl
        clear h0 h1
        go_enter Try.func40, Try.ntmps40
        go_wp2
        go_ret
        exact ⟨ret_int (by rw [hv.out]), rfl⟩

theorem atries_any (j c : Nat) (S : List Value) (T : List Int) (s : AS) (w : World) (h : AC w j c S T s) :
    Calls Try.prog 39 #[.pointer (some ⟨j, 0, none⟩)] w fun e w' => e = .returned (.int .i64 s.pt) ∧ w = w' := by
  have h19 := h.pt
  go_enter Try.func39, Try.ntmps39
  go_wp2
  go_ret
  exact ⟨rfl, rfl⟩

theorem aout_any (j c : Nat) (S : List Value) (T : List Int) (s : AS) (t : Int) (w : World) (h : AC w j c S T s) :
    Calls Try.prog 41 #[.pointer (some ⟨j, 0, none⟩), .int .i64 t] w fun e w' => e = .returned (.tuple #[.bool (aDone t s), .int .u8 (aOutWhy t s)]) ∧ AC w' j c S T (aOut t s) ∧ Fr (two j c) w w' := by
  have h14 := h.st
  have H := Lib.hid h
  obtain ⟨d, hd⟩ : ∃ d, aDone t s = d := ⟨_, rfl⟩
  obtain ⟨y, hy⟩ : ∃ y, aOutWhy t s = y := ⟨_, rfl⟩
  have hO : aOut t s = if d = true then aEnd s else s := by unfold aOut; rw [hd]
  rw [hd, hy, hO]
  unfold aDone at hd
  unfold aOutWhy at hy
  clear hO h
  obtain ⟨st, hst⟩ : ∃ st, s.st = st := ⟨_, rfl⟩
  rw [hst] at hd hy h14
  clear hst
  by_cases a1 : t = 2
  · subst a1
    by_cases b1 : st = 1
    · subst b1
      simp at hd hy
      subst hd hy
      go_enter Try.func41, Try.ntmps41
      go_wp2
      go_ret2
      exact ⟨rfl, H.out, Fr.refl _ _⟩
    · have b2 : (st == 1) = false := by simp [b1]
      simp [b1] at hd hy
      subst hd hy
      clear b1
      go_enter Try.func41, Try.ntmps41
      go_wp2
      go_ret2
      exact ⟨rfl, H.out, Fr.refl _ _⟩
  · have a2 : (t == 2) = false := by simp [a1]
    by_cases a3 : t = 3
    · subst a3
      by_cases b1 : st = 2
      · subst b1
        simp at hd hy
        subst hd hy
        go_enter Try.func41, Try.ntmps41
        go_wp2
        go_ret2
        exact ⟨rfl, H.out, Fr.refl _ _⟩
      · have b2 : (st == 2) = false := by simp [b1]
        simp [b1] at hd hy
        subst hd hy
        clear b1
        go_enter Try.func41, Try.ntmps41
        go_wp2
        go_ret2
        exact ⟨rfl, H.out, Fr.refl _ _⟩
    · have a4 : (t == 3) = false := by simp [a3]
      have hy0 : y = 0 := by simp [a1, a3] at hy; exact hy.symm
      subst hy0
      clear hy
      by_cases a5 : t = 4
      · subst a5
        by_cases b1 : st = 3
        · subst b1
          simp at hd
          subst hd
          go_enter Try.func41, Try.ntmps41
          go_wp2_with fail
          refine (aend_any j c S T _ _ H.out).mono ?_
          rintro e w1 ⟨rfl, h1, hF⟩
          go_wp2
          go_ret2
          exact ⟨rfl, h1, hF⟩
        · have b2 : (st == 3) = false := by simp [b1]
          simp [b1] at hd
          subst hd
          clear b1
          go_enter Try.func41, Try.ntmps41
          go_wp2
          go_ret2
          exact ⟨rfl, H.out, Fr.refl _ _⟩
      · have a6 : (t == 4) = false := by simp [a5]
        by_cases a7 : t = 0
        · subst a7
          by_cases b1 : st = 3
          · subst b1
            simp at hd
            subst hd
            go_enter Try.func41, Try.ntmps41
            go_wp2_with fail
            refine (aend_any j c S T _ _ H.out).mono ?_
            rintro e w1 ⟨rfl, h1, hF⟩
            go_wp2
            go_ret2
            exact ⟨rfl, h1, hF⟩
          · have b2 : (st == 3) = false := by simp [b1]
            simp [b1] at hd
            subst hd
            clear b1
            go_enter Try.func41, Try.ntmps41
            go_wp2
            go_ret2
            exact ⟨rfl, H.out, Fr.refl _ _⟩
        · have a8 : (t == 0) = false := by simp [a7]
          simp [a5, a7] at hd
          subst hd
          clear a1 a3 a5 a7
          go_enter Try.func41, Try.ntmps41
          go_wp2
          go_ret2
          exact ⟨rfl, H.out, Fr.refl _ _⟩
end Go.Proofs.Ytpalpoecakijnaa
