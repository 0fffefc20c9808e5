/-
  Each once, in order, by the basic method, without a queue: the plain law.
-/
namespace Go.Proofs.Ytadheikcgdhcdaa
set_option linter.unusedVariables false

/-- Two ways joined by a line: acked, sent, put, the place that goes next; taken; the indicators. -/
structure LSt where
  fib : Bool
  bib : Bool
  asked : Bool
  p : Nat
  q : Nat
  P : Nat
  g : Nat
  r : Nat
def lput (N : Nat) (s : LSt) : LSt := if s.P < N ∧ s.P < s.p + 16 then { s with P := s.P + 1 } else s
def lnext (s : LSt) : LSt := if s.g < s.P then { s with g := s.g + 1, q := max s.q (s.g + 1) } else s
/-- A unit comes: its indicator, its place, and whether it is a message. -/
def ltake (uf : Bool) (x : Nat) (msg : Bool) (s : LSt) : LSt :=
  if uf = s.bib then (if x = s.r then (if msg = true then { s with r := s.r + 1, asked := false } else { s with asked := false }) else { s with bib := !s.bib, asked := true }) else s
def lans (rv : Nat) (vb : Bool) (s : LSt) : LSt := { s with p := rv, g := if vb = s.fib then max s.g rv else rv, fib := vb }
structure LInv (N : Nat) (s : LSt) : Prop where
  pr : s.p ≤ s.r
  rg : s.r ≤ s.g
  gq : s.g ≤ s.q
  qP : s.q ≤ s.P
  PN : s.P ≤ N
  N40 : N ≤ 39
  room : s.P ≤ s.p + 16
  ask : s.fib = s.bib ∨ s.asked = true
/-- One round: is the unit there, is the one back delivered? -/
def lround (N : Nat) (du dv : Bool) (s : LSt) : LSt :=
  let s1 := lput N s
  let s2 := lnext s1
  let s3 := if du = true then ltake s1.fib s1.g (decide (s1.g < s1.P)) s2 else s2
  if dv = true then lans s1.r s1.bib s3 else s3
def lmeas (N : Nat) (s : LSt) : Nat := (N - s.r) + (if s.fib = s.bib then (if s.r < s.g then 2 else 0) else 1) + (if s.p + 1 < s.r then 1 else 0)

theorem LInv.put {N : Nat} {s : LSt} (h : LInv N s) : LInv N (lput N s) := by
  obtain ⟨h1, h2, h3, h4, h5, h6, h7, h8⟩ := h
  unfold lput
  split
  · rename_i hc
    exact ⟨h1, h2, h3, by show s.q ≤ s.P + 1; omega, by show s.P + 1 ≤ N; omega, h6, by show s.P + 1 ≤ s.p + 16; omega, h8⟩
  · exact ⟨h1, h2, h3, h4, h5, h6, h7, h8⟩
theorem LInv.next {N : Nat} {s : LSt} (h : LInv N s) : LInv N (lnext s) := by
  obtain ⟨h1, h2, h3, h4, h5, h6, h7, h8⟩ := h
  unfold lnext
  split
  · rename_i hc
    exact ⟨h1, by show s.r ≤ s.g + 1; omega, by show s.g + 1 ≤ max s.q (s.g + 1); omega, by show max s.q (s.g + 1) ≤ s.P; omega, h5, h6, h7, h8⟩
  · exact ⟨h1, h2, h3, h4, h5, h6, h7, h8⟩
theorem LInv.take {N : Nat} {s : LSt} (h : LInv N s) : LInv N (ltake s.fib s.g (decide (s.g < s.P)) (lnext s)) := by
  have hn := h.next
  obtain ⟨h1, h2, h3, h4, h5, h6, h7, h8⟩ := h
  have hb : (lnext s).bib = s.bib ∧ (lnext s).r = s.r ∧ (lnext s).fib = s.fib ∧ (lnext s).asked = s.asked ∧ (lnext s).p = s.p ∧ (lnext s).P = s.P := by unfold lnext; split <;> simp
  obtain ⟨n1, n2, n3, n4, n5, n6, n7, n8⟩ := hn
  unfold ltake
  split
  · rename_i hf
    split
    · rename_i hx
      split
      · rename_i hm
        have hm2 : s.g < s.P := by simpa using hm
        have hg : (lnext s).g = s.g + 1 := by unfold lnext; rw [if_pos hm2]
        exact ⟨by show (lnext s).p ≤ (lnext s).r + 1; omega, by show (lnext s).r + 1 ≤ (lnext s).g; omega, n3, n4, n5, n6, n7, by show (lnext s).fib = (lnext s).bib ∨ _; rw [hb.2.2.1]; exact .inl hf⟩
      · exact ⟨n1, n2, n3, n4, n5, n6, n7, by show (lnext s).fib = (lnext s).bib ∨ _; rw [hb.2.2.1]; exact .inl hf⟩
    · exact ⟨n1, n2, n3, n4, n5, n6, n7, .inr rfl⟩
  · exact ⟨n1, n2, n3, n4, n5, n6, n7, n8⟩
theorem LInv.round {N : Nat} {s : LSt} (h : LInv N s) (du dv : Bool) : LInv N (lround N du dv s) := by
  have h1 := h.put
  unfold lround
  generalize lput N s = s1 at h1
  have hn := h1.next
  have ht := h1.take
  have hr : s1.r ≤ (ltake s1.fib s1.g (decide (s1.g < s1.P)) (lnext s1)).r ∧ (lnext s1).r = s1.r ∧ s1.p ≤ s1.r := by
    refine ⟨?_, by unfold lnext; split <;> rfl, h1.pr⟩
    have : (lnext s1).r = s1.r := by unfold lnext; split <;> rfl
    unfold ltake
    split
    · split
      · split
        · show s1.r ≤ (lnext s1).r + 1; omega
        · show s1.r ≤ (lnext s1).r; omega
      · show s1.r ≤ (lnext s1).r; omega
    · omega
  have hbb : (lnext s1).bib = s1.bib := by unfold lnext; split <;> rfl
  have hff : (lnext s1).fib = s1.fib := by unfold lnext; split <;> rfl
  have htf : (ltake s1.fib s1.g (decide (s1.g < s1.P)) (lnext s1)).fib = s1.fib := by
    unfold ltake; split
    · split
      · split <;> exact hff
      · exact hff
    · exact hff
  have htb : s1.fib ≠ s1.bib → (ltake s1.fib s1.g (decide (s1.g < s1.P)) (lnext s1)) = lnext s1 := by
    intro hne; unfold ltake; rw [if_neg (by rw [hbb]; exact hne)]
  have key : ∀ s3 : LSt, LInv N s3 → s1.r ≤ s3.r → s1.p ≤ s1.r → s3.p = s1.p → (s3.fib = s1.fib) → (s1.bib = s1.fib ∨ (s3.r = s1.r ∧ s3.bib = s1.bib)) → LInv N (lans s1.r s1.bib s3) := by
    intro s3 h3 e1 e2 ep e3 e4
    obtain ⟨m1, m2, m3, m4, m5, m6, m7, m8⟩ := h3
    unfold lans
    rcases e4 with e4 | ⟨e4, e5⟩
    · have : s1.bib = s3.fib := by rw [e3, e4]
      rw [if_pos this]
      exact ⟨e1, by show s3.r ≤ max s3.g s1.r; omega, by show max s3.g s1.r ≤ s3.q; omega, m4, m5, m6, by show s3.P ≤ s1.r + 16; omega, by show s1.bib = s3.bib ∨ s3.asked = true; rw [this]; exact m8⟩
    · refine ⟨e1, ?_, ?_, m4, m5, m6, by show s3.P ≤ s1.r + 16; omega, .inl e5.symm⟩
      · show s3.r ≤ if s1.bib = s3.fib then max s3.g s1.r else s1.r
        split <;> omega
      · show (if s1.bib = s3.fib then max s3.g s1.r else s1.r) ≤ s3.q
        split <;> omega
  have hp1 : (lnext s1).p = s1.p := by unfold lnext; split <;> rfl
  have hp2 : (ltake s1.fib s1.g (decide (s1.g < s1.P)) (lnext s1)).p = s1.p := by
    unfold ltake; split
    · split
      · split <;> exact hp1
      · exact hp1
    · exact hp1
  show LInv N (if dv = true then lans s1.r s1.bib (if du = true then ltake s1.fib s1.g (decide (s1.g < s1.P)) (lnext s1) else lnext s1) else (if du = true then ltake s1.fib s1.g (decide (s1.g < s1.P)) (lnext s1) else lnext s1))
  cases du <;> cases dv <;> simp only [if_true, if_false, Bool.false_eq_true]
  · exact hn
  · refine key _ hn (by omega) hr.2.2 hp1 hff ?_
    exact .inr ⟨hr.2.1, hbb⟩
  · exact ht
  · refine key _ ht hr.1 hr.2.2 hp2 htf ?_
    by_cases hfb : s1.bib = s1.fib
    · exact .inl hfb
    · right
      rw [htb (fun e => hfb e.symm)]
      exact ⟨hr.2.1, hbb⟩
theorem lmeas_round {N : Nat} {s : LSt} (h : LInv N s) : lmeas N (lround N true true s) ≤ lmeas N s - 1 := by
  have h1 := h.put
  have hpr : (lput N s).r = s.r ∧ (lput N s).p = s.p ∧ (lput N s).g = s.g ∧ (lput N s).q = s.q ∧ (lput N s).fib = s.fib ∧ (lput N s).bib = s.bib ∧ s.P ≤ (lput N s).P := by
    unfold lput; split <;> simp
  have hroom : s.P < N → s.P < s.p + 16 → (lput N s).P = s.P + 1 := fun a b => by unfold lput; rw [if_pos ⟨a, b⟩]
  unfold lround
  generalize lput N s = s1 at *
  obtain ⟨a1, a2, a3, a4, a5, a6, a7⟩ := hpr
  obtain ⟨h11, h12, h13, h14, h15, h16, h17, h18⟩ := h1
  obtain ⟨g1, g2, g3, g4, g5, g6, g7, g8⟩ := h
  have hm : lmeas N s = (N - s1.r) + (if s1.fib = s1.bib then (if s1.r < s1.g then 2 else 0) else 1) + (if s1.p + 1 < s1.r then 1 else 0) := by
    unfold lmeas; rw [a1, a2, a3, a5, a6]
  rw [hm]
  simp only [if_true]
  by_cases hfb : s1.fib = s1.bib
  · rw [if_pos hfb]
    by_cases hrg : s1.r < s1.g
    · -- a gap: it is asked for again
      rw [if_pos hrg]
      have ht : ltake s1.fib s1.g (decide (s1.g < s1.P)) (lnext s1) = { lnext s1 with bib := !(lnext s1).bib, asked := true } := by
        have hb : (lnext s1).bib = s1.bib := by unfold lnext; split <;> rfl
        have hr : (lnext s1).r = s1.r := by unfold lnext; split <;> rfl
        unfold ltake
        rw [if_pos (by rw [hb]; exact hfb), if_neg (by rw [hr]; omega)]
      rw [ht]
      have hr : (lnext s1).r = s1.r := by unfold lnext; split <;> rfl
      have hb : (lnext s1).bib = s1.bib := by unfold lnext; split <;> rfl
      simp only [lmeas, lans, hr, hb]
      rw [if_neg (by cases s1.bib <;> simp), if_neg (by omega)]
      split <;> omega
    · have hrg2 : s1.g = s1.r := by omega
      rw [if_neg hrg]
      by_cases hgP : s1.g < s1.P
      · have hn : lnext s1 = { s1 with g := s1.g + 1, q := max s1.q (s1.g + 1) } := by unfold lnext; rw [if_pos hgP]
        rw [hn]
        have ht : ltake s1.fib s1.g (decide (s1.g < s1.P)) { s1 with g := s1.g + 1, q := max s1.q (s1.g + 1) } = { s1 with g := s1.g + 1, q := max s1.q (s1.g + 1), r := s1.r + 1, asked := false } := by
          unfold ltake
          rw [if_pos hfb, if_pos hrg2, if_pos (by simpa using hgP)]
        rw [ht]
        simp only [lmeas, lans]
        rw [if_pos hfb.symm, if_pos trivial, if_neg (by omega), if_neg (by omega)]
        split <;> omega
      · have hn : lnext s1 = s1 := by unfold lnext; rw [if_neg hgP]
        rw [hn]
        have ht : ltake s1.fib s1.g (decide (s1.g < s1.P)) s1 = { s1 with asked := false } := by
          unfold ltake
          rw [if_pos hfb, if_pos hrg2, if_neg (by simpa using hgP)]
        rw [ht]
        simp only [lmeas, lans]
        rw [if_pos hfb.symm, if_pos trivial, if_neg (by omega), if_neg (by omega)]
        by_cases hd : s1.r = N
        · omega
        · -- a put found no room
          have hc : ¬ (s.P < s.p + 16) := by
            intro hc
            have := hroom (by omega) hc
            omega
          rw [if_pos (by omega)]
          omega
  · rw [if_neg hfb]
    have ht : ltake s1.fib s1.g (decide (s1.g < s1.P)) (lnext s1) = lnext s1 := by
      have hb : (lnext s1).bib = s1.bib := by unfold lnext; split <;> rfl
      unfold ltake
      rw [if_neg (by rw [hb]; exact hfb)]
    rw [ht]
    have hr : (lnext s1).r = s1.r := by unfold lnext; split <;> rfl
    have hb : (lnext s1).bib = s1.bib := by unfold lnext; split <;> rfl
    have hf : (lnext s1).fib = s1.fib := by unfold lnext; split <;> rfl
    have hne : ¬ s1.bib = s1.fib := fun e => hfb e.symm
    have hl : lmeas N (lans s1.r s1.bib (lnext s1)) = N - s1.r := by
      unfold lmeas lans
      simp only [hr, hb, hf, if_neg hne]
      rw [if_pos trivial, if_neg (by omega), if_neg (by omega)]
      omega
    rw [hl]
    split <;> omega
theorem lmeas_bd {N : Nat} {s : LSt} (h : LInv N s) : lmeas N s ≤ 42 := by
  have := h.N40
  unfold lmeas
  split <;> split <;> (try split) <;> omega
theorem lmeas_done {N : Nat} {s : LSt} (h : LInv N s) (hm : lmeas N s = 0) : s.r = N ∧ s.P = N := by
  have h1 := h.rg; have h2 := h.gq; have h3 := h.qP; have h4 := h.PN
  unfold lmeas at hm
  omega
end Go.Proofs.Ytadheikcgdhcdaa
