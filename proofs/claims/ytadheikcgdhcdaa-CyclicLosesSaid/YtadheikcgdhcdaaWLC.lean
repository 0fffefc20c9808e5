/-
  Each once, in order, by the cyclic method, without a queue: the plain law.
-/
namespace Go.Proofs.Ytadheikcgdhcdaa
set_option linter.unusedVariables false

/-- Two cyclic ways joined by a line: acked, sent, put, taken; the place that goes again; what must. -/
structure CLt where
  p : Nat
  q : Nat
  P : Nat
  r : Nat
  pl : Nat
  force : Bool
def cput (N : Nat) (s : CLt) : CLt := if s.P < N ∧ s.P < s.p + 16 then { s with P := s.P + 1 } else s
/-- More is there, and doesn't fit. -/
def cover (s : CLt) : Bool := decide (s.q < s.P) && decide (8 ≤ s.q - s.p)
def cplace (s : CLt) : Nat := if s.q - s.p ≤ s.pl then 0 else s.pl
/-- The next unit's place, whether it is a message; the state behind it. -/
def cnextX (s : CLt) : Nat := if s.force = false ∧ cover s = false ∧ s.q < s.P then s.q else if s.q = s.p then s.q else s.p + cplace s
def cnextM (s : CLt) : Bool := decide (s.force = false ∧ cover s = false ∧ s.q < s.P) || decide (s.q ≠ s.p)
def cnext (s : CLt) : CLt :=
  if s.force = false ∧ cover s = false ∧ s.q < s.P then { s with q := s.q + 1 }
  else if s.q = s.p then { s with pl := 0, force := false }
  else { s with pl := cplace s + 1, force := if s.q - s.p ≤ s.pl then cover s else s.force || cover s }
def ctake (x : Nat) (msg : Bool) (s : CLt) : CLt := if msg = true ∧ x = s.r then { s with r := s.r + 1 } else s
def cans (rv : Nat) (s : CLt) : CLt := { s with p := rv, pl := s.pl - (rv - s.p) }
structure CLInv (N : Nat) (s : CLt) : Prop where
  pr : s.p ≤ s.r
  rq : s.r ≤ s.q
  qP : s.q ≤ s.P
  PN : s.P ≤ N
  N40 : N ≤ 39
  room : s.P ≤ s.p + 16
  plb : s.pl ≤ s.q - s.p
def cround (N : Nat) (du dv : Bool) (s : CLt) : CLt :=
  let s1 := cput N s
  let s2 := cnext s1
  let s3 := if du = true then ctake (cnextX s1) (cnextM s1) s2 else s2
  if dv = true then cans s1.r s3 else s3
def cdist (s : CLt) : Nat := if s.pl ≤ s.r - s.p then s.r - s.p - s.pl else (s.q - s.p) - s.pl + (s.r - s.p)
def cmeas (N : Nat) (s : CLt) : Nat := 2 * (N - s.q) + (N - s.r) + (if s.r < s.q then cdist s + 2 else if s.force = true then (if s.p < s.r then 2 else 1) else 0)

theorem CLInv.put {N : Nat} {s : CLt} (h : CLInv N s) : CLInv N (cput N s) := by
  obtain ⟨h1, h2, h3, h4, h5, h6, h7⟩ := h
  unfold cput
  split
  · exact ⟨h1, h2, by show s.q ≤ s.P + 1; omega, by show s.P + 1 ≤ N; omega, h5, by show s.P + 1 ≤ s.p + 16; omega, h7⟩
  · exact ⟨h1, h2, h3, h4, h5, h6, h7⟩
theorem cplace_lt (s : CLt) (h : s.q ≠ s.p) (h2 : s.p ≤ s.q) : cplace s < s.q - s.p := by
  unfold cplace; split <;> omega
theorem cnext_eq (s : CLt) : (cnext s).p = s.p ∧ (cnext s).r = s.r ∧ (cnext s).P = s.P := by
  unfold cnext; split
  · simp
  · split <;> simp
theorem CLInv.next {N : Nat} {s : CLt} (h : CLInv N s) : CLInv N (cnext s) := by
  obtain ⟨h1, h2, h3, h4, h5, h6, h7⟩ := h
  unfold cnext
  split
  · rename_i hc
    exact ⟨h1, by show s.r ≤ s.q + 1; omega, by show s.q + 1 ≤ s.P; omega, h4, h5, h6, by show s.pl ≤ s.q + 1 - s.p; omega⟩
  · split
    · exact ⟨h1, h2, h3, h4, h5, h6, Nat.zero_le _⟩
    · rename_i hne
      have := cplace_lt s hne (by omega)
      exact ⟨h1, h2, h3, h4, h5, h6, by show cplace s + 1 ≤ s.q - s.p; omega⟩
theorem CLInv.take {N : Nat} {s : CLt} (h : CLInv N s) : CLInv N (ctake (cnextX s) (cnextM s) (cnext s)) := by
  have hn := h.next
  have he := cnext_eq s
  unfold ctake
  split
  · rename_i hc
    have hq : s.r < (cnext s).q := by
      have hx := hc.2
      have hm := hc.1
      rw [he.2.1] at hx
      unfold cnextX at hx
      unfold cnextM at hm
      unfold cnext
      split
      · rename_i h1; rw [if_pos h1] at hx; show s.r < s.q + 1; omega
      · rename_i h1
        rw [if_neg h1] at hx
        rw [decide_eq_false h1, Bool.false_or] at hm
        have hne : s.q ≠ s.p := by simpa using hm
        rw [if_neg hne] at hx ⊢
        have := cplace_lt s hne (by have := h.pr; have := h.rq; omega)
        show s.r < s.q
        omega
    obtain ⟨n1, n2, n3, n4, n5, n6, n7⟩ := hn
    exact ⟨by show (cnext s).p ≤ (cnext s).r + 1; omega, by show (cnext s).r + 1 ≤ (cnext s).q; omega, n3, n4, n5, n6, n7⟩
  · exact hn
theorem ctake_eq (x : Nat) (m : Bool) (s : CLt) : (ctake x m s).p = s.p ∧ (ctake x m s).q = s.q ∧ (ctake x m s).P = s.P ∧ (ctake x m s).pl = s.pl ∧ s.r ≤ (ctake x m s).r ∧ (ctake x m s).r ≤ s.r + 1 := by
  unfold ctake; split <;> simp
theorem CLInv.ans {N : Nat} {s : CLt} (h : CLInv N s) (rv : Nat) (h1 : s.p ≤ rv) (h2 : rv ≤ s.r) : CLInv N (cans rv s) := by
  obtain ⟨n1, n2, n3, n4, n5, n6, n7⟩ := h
  exact ⟨h2, n2, n3, n4, n5, by show s.P ≤ rv + 16; omega, by show s.pl - (rv - s.p) ≤ s.q - rv; omega⟩
theorem CLInv.round {N : Nat} {s : CLt} (h : CLInv N s) (du dv : Bool) : CLInv N (cround N du dv s) := by
  have h1 := h.put
  unfold cround
  generalize cput N s = s1 at h1
  have hn := h1.next
  have ht := h1.take
  have he := cnext_eq s1
  have hte := ctake_eq (cnextX s1) (cnextM s1) (cnext s1)
  have hp := h1.pr
  show CLInv N (if dv = true then cans s1.r (if du = true then ctake (cnextX s1) (cnextM s1) (cnext s1) else cnext s1) else (if du = true then ctake (cnextX s1) (cnextM s1) (cnext s1) else cnext s1))
  cases du <;> cases dv <;> simp only [if_true, if_false, Bool.false_eq_true]
  · exact hn
  · exact hn.ans s1.r (by omega) (by omega)
  · exact ht
  · exact ht.ans s1.r (by omega) (by omega)
/-- Behind a round in which all comes through what is taken is answered, but for the last. -/
theorem cround_near {N : Nat} {s : CLt} : (cround N true true s).r ≤ (cround N true true s).p + 1 := by
  unfold cround
  generalize cput N s = s1
  have he := cnext_eq s1
  have hte := ctake_eq (cnextX s1) (cnextM s1) (cnext s1)
  show (ctake (cnextX s1) (cnextM s1) (cnext s1)).r ≤ s1.r + 1
  omega
theorem cmeas_round {N : Nat} {s : CLt} (h : CLInv N s) (hr : s.r ≤ s.p + 1) : cmeas N (cround N true true s) ≤ cmeas N s - 1 := by
  have h1 := h.put
  have hpr : (cput N s).r = s.r ∧ (cput N s).p = s.p ∧ (cput N s).q = s.q ∧ (cput N s).pl = s.pl ∧ (cput N s).force = s.force ∧ s.P ≤ (cput N s).P := by
    unfold cput; split <;> simp
  have hroom : s.P < N → s.P < s.p + 16 → (cput N s).P = s.P + 1 := fun a b => by unfold cput; rw [if_pos ⟨a, b⟩]
  have hm : cmeas N s = cmeas N (cput N s) := by
    unfold cmeas cdist
    rw [hpr.1, hpr.2.1, hpr.2.2.1, hpr.2.2.2.1, hpr.2.2.2.2.1]
  rw [hm]
  unfold cround
  generalize cput N s = s1 at *
  obtain ⟨a1, a2, a3, a4, a5, a6⟩ := hpr
  obtain ⟨h11, h12, h13, h14, h15, h16, h17⟩ := h1
  obtain ⟨g1, g2, g3, g4, g5, g6, g7⟩ := h
  show cmeas N (cans s1.r (ctake (cnextX s1) (cnextM s1) (cnext s1))) ≤ cmeas N s1 - 1
  have hq : s1.r < s1.q ∨ s1.r = s1.q := by omega
  rcases hq with hq | hq
  · -- one is missing
    by_cases hnew : s1.force = false ∧ cover s1 = false ∧ s1.q < s1.P
    · have hx : cnextX s1 = s1.q := by unfold cnextX; rw [if_pos hnew]
      have hn : cnext s1 = { s1 with q := s1.q + 1 } := by unfold cnext; rw [if_pos hnew]
      rw [hx, hn]
      have ht : ctake s1.q (cnextM s1) { s1 with q := s1.q + 1 } = { s1 with q := s1.q + 1 } := by
        unfold ctake; rw [if_neg (fun e => by have : s1.q = s1.r := e.2; omega)]
      rw [ht]
      show cmeas N ⟨s1.r, s1.q + 1, s1.P, s1.r, s1.pl - (s1.r - s1.p), s1.force⟩ ≤ cmeas N s1 - 1
      simp only [cmeas, cdist]
      (repeat' split) <;> omega
    · have hne : s1.q ≠ s1.p := by omega
      have hx : cnextX s1 = s1.p + cplace s1 := by unfold cnextX; rw [if_neg hnew, if_neg hne]
      have hmm : cnextM s1 = true := by unfold cnextM; simp [hne]
      have hpl := cplace_lt s1 hne (by omega)
      have hplv : cplace s1 = if s1.q - s1.p ≤ s1.pl then 0 else s1.pl := rfl
      obtain ⟨F, hF⟩ : ∃ F, (if s1.q - s1.p ≤ s1.pl then cover s1 else s1.force || cover s1) = F := ⟨_, rfl⟩
      have hn : cnext s1 = { s1 with pl := cplace s1 + 1, force := F } := by unfold cnext; rw [if_neg hnew, if_neg hne, hF]
      rw [hx, hn, hmm]
      by_cases hxr : s1.p + cplace s1 = s1.r
      · have ht : ctake (s1.p + cplace s1) true { s1 with pl := cplace s1 + 1, force := F } = { s1 with pl := cplace s1 + 1, force := F, r := s1.r + 1 } := by
          unfold ctake; rw [if_pos ⟨rfl, hxr⟩]
        rw [ht]
        show cmeas N ⟨s1.r, s1.q, s1.P, s1.r + 1, cplace s1 + 1 - (s1.r - s1.p), F⟩ ≤ cmeas N s1 - 1
        simp only [cmeas, cdist]
        (repeat' split) <;> omega
      · have ht : ctake (s1.p + cplace s1) true { s1 with pl := cplace s1 + 1, force := F } = { s1 with pl := cplace s1 + 1, force := F } := by
          unfold ctake; rw [if_neg (fun e => hxr e.2)]
        rw [ht]
        show cmeas N ⟨s1.r, s1.q, s1.P, s1.r, cplace s1 + 1 - (s1.r - s1.p), F⟩ ≤ cmeas N s1 - 1
        simp only [cmeas, cdist]
        rw [hplv] at hxr hpl ⊢
        by_cases hw : s1.q - s1.p ≤ s1.pl
        · rw [if_pos hw] at hxr hpl ⊢
          (repeat' split) <;> omega
        · rw [if_neg hw] at hxr hpl ⊢
          (repeat' split) <;> omega
  · -- all that was sent was taken
    have hov : cover s1 = false := by
      unfold cover
      rw [decide_eq_false (by omega : ¬ 8 ≤ s1.q - s1.p), Bool.and_false]
    by_cases hN : s1.q = N
    · have hqP : ¬ s1.q < s1.P := by omega
      have hnew : ¬ (s1.force = false ∧ cover s1 = false ∧ s1.q < s1.P) := fun e => hqP e.2.2
      by_cases hne : s1.q = s1.p
      · have hn : cnext s1 = { s1 with pl := 0, force := false } := by unfold cnext; rw [if_neg hnew, if_pos hne]
        have hmm : cnextM s1 = false := by unfold cnextM; rw [decide_eq_false hnew]; simp [hne]
        rw [hn, hmm]
        have ht : ctake (cnextX s1) false { s1 with pl := 0, force := false } = { s1 with pl := 0, force := false } := by
          unfold ctake; rw [if_neg (fun e => by cases e.1)]
        rw [ht]
        show cmeas N ⟨s1.r, s1.q, s1.P, s1.r, 0 - (s1.r - s1.p), false⟩ ≤ cmeas N s1 - 1
        simp only [cmeas, cdist]
        (repeat' split) <;> first | omega | contradiction | simp_all
      · have hx : cnextX s1 = s1.p + cplace s1 := by unfold cnextX; rw [if_neg hnew, if_neg hne]
        have hpl := cplace_lt s1 hne (by omega)
        obtain ⟨F, hF⟩ : ∃ F, (if s1.q - s1.p ≤ s1.pl then cover s1 else s1.force || cover s1) = F := ⟨_, rfl⟩
        have hFf : F = true → s1.force = true := by
          rw [← hF, hov]
          split
          · intro e; cases e
          · simp
        have hn : cnext s1 = { s1 with pl := cplace s1 + 1, force := F } := by unfold cnext; rw [if_neg hnew, if_neg hne, hF]
        rw [hx, hn]
        have ht : ctake (s1.p + cplace s1) (cnextM s1) { s1 with pl := cplace s1 + 1, force := F } = { s1 with pl := cplace s1 + 1, force := F } := by
          unfold ctake; rw [if_neg (fun e => by have : s1.p + cplace s1 = s1.r := e.2; omega)]
        rw [ht]
        show cmeas N ⟨s1.r, s1.q, s1.P, s1.r, cplace s1 + 1 - (s1.r - s1.p), F⟩ ≤ cmeas N s1 - 1
        simp only [cmeas, cdist]
        by_cases hFt : F = true
        · have := hFf hFt
          (repeat' split) <;> omega
        · (repeat' split) <;> omega
    · have hqP : s1.q < s1.P := by
        by_cases hc : s.P < N ∧ s.P < s.p + 16
        · have := hroom hc.1 hc.2; omega
        · omega
      by_cases hf : s1.force = false
      · have hnew : s1.force = false ∧ cover s1 = false ∧ s1.q < s1.P := ⟨hf, hov, hqP⟩
        have hx : cnextX s1 = s1.q := by unfold cnextX; rw [if_pos hnew]
        have hn : cnext s1 = { s1 with q := s1.q + 1 } := by unfold cnext; rw [if_pos hnew]
        have hmm : cnextM s1 = true := by unfold cnextM; rw [decide_eq_true hnew]; rfl
        rw [hx, hn, hmm]
        have ht : ctake s1.q true { s1 with q := s1.q + 1 } = { s1 with q := s1.q + 1, r := s1.r + 1 } := by
          unfold ctake; rw [if_pos ⟨rfl, hq.symm⟩]
        rw [ht]
        show cmeas N ⟨s1.r, s1.q + 1, s1.P, s1.r + 1, s1.pl - (s1.r - s1.p), s1.force⟩ ≤ cmeas N s1 - 1
        simp only [cmeas, cdist]
        rw [hf]
        (repeat' split) <;> first | omega | contradiction | simp_all
      · have hft : s1.force = true := by simpa using hf
        have hnew : ¬ (s1.force = false ∧ cover s1 = false ∧ s1.q < s1.P) := fun e => hf e.1
        by_cases hne : s1.q = s1.p
        · have hn : cnext s1 = { s1 with pl := 0, force := false } := by unfold cnext; rw [if_neg hnew, if_pos hne]
          have hmm : cnextM s1 = false := by unfold cnextM; rw [decide_eq_false hnew]; simp [hne]
          rw [hn, hmm]
          have ht : ctake (cnextX s1) false { s1 with pl := 0, force := false } = { s1 with pl := 0, force := false } := by
            unfold ctake; rw [if_neg (fun e => by cases e.1)]
          rw [ht]
          show cmeas N ⟨s1.r, s1.q, s1.P, s1.r, 0 - (s1.r - s1.p), false⟩ ≤ cmeas N s1 - 1
          simp only [cmeas, cdist]
          rw [hft]
          (repeat' split) <;> first | omega | contradiction | simp_all
        · have hx : cnextX s1 = s1.p + cplace s1 := by unfold cnextX; rw [if_neg hnew, if_neg hne]
          have hpl := cplace_lt s1 hne (by omega)
          obtain ⟨F, hF⟩ : ∃ F, (if s1.q - s1.p ≤ s1.pl then cover s1 else s1.force || cover s1) = F := ⟨_, rfl⟩
          have hn : cnext s1 = { s1 with pl := cplace s1 + 1, force := F } := by unfold cnext; rw [if_neg hnew, if_neg hne, hF]
          rw [hx, hn]
          have ht : ctake (s1.p + cplace s1) (cnextM s1) { s1 with pl := cplace s1 + 1, force := F } = { s1 with pl := cplace s1 + 1, force := F } := by
            unfold ctake; rw [if_neg (fun e => by have : s1.p + cplace s1 = s1.r := e.2; omega)]
          rw [ht]
          show cmeas N ⟨s1.r, s1.q, s1.P, s1.r, cplace s1 + 1 - (s1.r - s1.p), F⟩ ≤ cmeas N s1 - 1
          simp only [cmeas, cdist]
          rw [hft]
          (repeat' split) <;> first | omega | contradiction | simp_all
theorem cmeas_bd {N : Nat} {s : CLt} (h : CLInv N s) : cmeas N s ≤ 150 := by
  obtain ⟨h1, h2, h3, h4, h5, h6, h7⟩ := h
  unfold cmeas cdist
  split
  · split <;> omega
  · split
    · split <;> omega
    · omega
theorem cmeas_done {N : Nat} {s : CLt} (h : CLInv N s) (hm : cmeas N s = 0) : s.r = N ∧ s.P = N := by
  have h1 := h.rq; have h3 := h.qP; have h4 := h.PN
  unfold cmeas at hm
  omega
end Go.Proofs.Ytadheikcgdhcdaa
