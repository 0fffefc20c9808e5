/-
  Each once, in order, by the cyclic method, over lines that hold units for a while: the plain law.
-/
import Derived.Test.YtadheikcgdhcdaaWLC
namespace Go.Proofs.Ytadheikcgdhcdaa
set_option linter.unusedVariables false
set_option linter.unusedSimpArgs false

/-- More is there, and doesn't fit: no more than M may wait. -/
def gover (M : Nat) (s : CLt) : Bool := decide (s.q < s.P) && decide (M ≤ s.q - s.p)
def gnextX (M : Nat) (s : CLt) : Nat := if s.force = false ∧ gover M s = false ∧ s.q < s.P then s.q else if s.q = s.p then s.q else s.p + cplace s
def gnextM (M : Nat) (s : CLt) : Bool := decide (s.force = false ∧ gover M s = false ∧ s.q < s.P) || decide (s.q ≠ s.p)
def gnext (M : Nat) (s : CLt) : CLt :=
  if s.force = false ∧ gover M s = false ∧ s.q < s.P then { s with q := s.q + 1 }
  else if s.q = s.p then { s with pl := 0, force := false }
  else { s with pl := cplace s + 1, force := if s.q - s.p ≤ s.pl then gover M s else s.force || gover M s }
def gtake (du : Bool) (u : Nat × Bool) (z : CLt) : CLt := if du = true then ctake u.1 u.2 z else z
def gans (dv : Bool) (v : Nat) (z : CLt) : CLt := if dv = true then cans v z else z
/-- So many come ahead of the place r. -/
def uidx (r : Nat) : List (Nat × Bool) → Nat
  | [] => 0
  | u :: U => if u = (r, true) then 0 else uidx r U + 1
def wcnt (K : Nat) : List Nat → Nat
  | [] => 0
  | v :: l => (if v < K then 1 else 0) + wcnt K l
theorem uidx_le (r : Nat) (U : List (Nat × Bool)) : uidx r U ≤ U.length := by
  induction U with
  | nil => simp [uidx]
  | cons x l ih => simp only [uidx, List.length_cons]; split <;> omega
theorem uidx_app {r : Nat} {U : List (Nat × Bool)} (h : (r, true) ∈ U) (l : List (Nat × Bool)) : uidx r (U ++ l) = uidx r U := by
  induction U with
  | nil => simp at h
  | cons x U ih =>
    simp only [List.cons_append, uidx]
    split
    · rfl
    · rename_i hne
      rw [ih]
      rcases List.mem_cons.1 h with e | e
      · exact absurd e.symm hne
      · exact e
theorem wcnt_snoc (K : Nat) (V : List Nat) (v : Nat) : wcnt K (V ++ [v]) = wcnt K V + (if v < K then 1 else 0) := by
  induction V with
  | nil => simp [wcnt]
  | cons x l ih => simp only [List.cons_append, wcnt, ih]; omega
theorem wcnt_le (K : Nat) (V : List Nat) : wcnt K V ≤ V.length := by
  induction V with
  | nil => simp [wcnt]
  | cons x l ih => simp only [wcnt, List.length_cons]; split <;> omega
theorem wcnt_zero (K : Nat) (V : List Nat) (h : ∀ v ∈ V, K ≤ v) : wcnt K V = 0 := by
  induction V with
  | nil => rfl
  | cons x l ih =>
    have h1 := h x (by simp)
    simp only [wcnt]
    rw [if_neg (by omega), ih (fun v hv => h v (by simp [hv]))]
structure CB (K M : Nat) (z : CLt) (V : List Nat) : Prop where
  PK : z.P = K
  K19 : K ≤ 19
  M1 : 1 ≤ M
  M12 : M ≤ 12
  pr : z.p ≤ z.r
  rq : z.r ≤ z.q
  qK : z.q ≤ K
  win : z.q - z.p ≤ M
  plb : z.pl ≤ z.q - z.p
  vs : ∀ v ∈ V, z.p ≤ v ∧ v ≤ z.r
  so : V.Pairwise (fun a b => a ≤ b)
/-- So many rounds till the next one is taken. -/
def loc (K : Nat) (z : CLt) (U : List (Nat × Bool)) (V : List Nat) : Nat :=
  if z.r < z.q then (if (z.r, true) ∈ U then uidx z.r U + 1 else 7 + cdist z)
  else if z.r < K then 7 + (if z.p < z.r then wcnt z.r V + 3 else if z.force = true then 1 else 0)
  else wcnt z.r V + (if z.p < z.r then 1 else 0)
def cme (K : Nat) (z : CLt) (U : List (Nat × Bool)) (V : List Nat) : Nat := 35 * (K - z.r) + 2 * (K - z.q) + loc K z U V
/-- What is on its way there has been sent. -/
def UB (z : CLt) (U : List (Nat × Bool)) : Prop := ∀ u ∈ U, (u.2 = true → u.1 < z.q) ∧ u.1 ≤ z.q
theorem loc_bd {K M : Nat} {z : CLt} {U : List (Nat × Bool)} {V : List Nat} (h : CB K M z V) (hU : U.length ≤ 6) (hV : V.length ≤ 6) : loc K z U V ≤ 31 := by
  have h1 := uidx_le z.r U
  have h2 := wcnt_le z.r V
  have b1 := h.pr
  have b2 := h.rq
  have b3 := h.win
  have b4 := h.M12
  have b5 := h.plb
  unfold loc cdist
  repeat' split
  all_goals omega
theorem cme_bd {K M : Nat} {z : CLt} {U : List (Nat × Bool)} {V : List Nat} (h : CB K M z V) (hU : U.length ≤ 6) (hV : V.length ≤ 6) : cme K z U V ≤ 800 := by
  have := loc_bd h hU hV
  have := h.K19
  unfold cme
  omega
theorem gover_false {M : Nat} {z : CLt} (h : gover M z = false) (hq : z.q < z.P) : z.q - z.p < M := by
  unfold gover at h
  rw [decide_eq_true hq] at h
  have : ¬ M ≤ z.q - z.p := by simpa using h
  omega
theorem CB.next {K M : Nat} {z : CLt} {V : List Nat} (h : CB K M z V) : CB K M (gnext M z) (V ++ [z.r]) := by
  obtain ⟨h1, h2, h3, h4, h5, h6, h7, h8, h9, h10, h11⟩ := h
  have hv : ∀ v ∈ V ++ [z.r], z.p ≤ v ∧ v ≤ z.r := fun v hv => by
    rcases List.mem_append.1 hv with e | e
    · exact h10 v e
    · rw [List.mem_singleton.1 e]; exact ⟨h5, Nat.le_refl _⟩
  have hs : (V ++ [z.r]).Pairwise (fun a b => a ≤ b) := by
    rw [List.pairwise_append]
    refine ⟨h11, List.pairwise_singleton _ _, fun a ha b hb => ?_⟩
    rw [List.mem_singleton.1 hb]
    exact (h10 a ha).2
  unfold gnext
  split
  · rename_i hc
    have := gover_false hc.2.1 hc.2.2
    exact ⟨h1, h2, h3, h4, h5, by show z.r ≤ z.q + 1; omega, by show z.q + 1 ≤ K; omega, by show z.q + 1 - z.p ≤ M; omega, by show z.pl ≤ z.q + 1 - z.p; omega, hv, hs⟩
  · split
    · exact ⟨h1, h2, h3, h4, h5, h6, h7, h8, Nat.zero_le _, hv, hs⟩
    · rename_i hne
      have := cplace_lt z hne (by omega)
      exact ⟨h1, h2, h3, h4, h5, h6, h7, h8, by show cplace z + 1 ≤ z.q - z.p; omega, hv, hs⟩
theorem gnext_eq (M : Nat) (z : CLt) : (gnext M z).p = z.p ∧ (gnext M z).r = z.r ∧ (gnext M z).P = z.P ∧ z.q ≤ (gnext M z).q := by
  unfold gnext; split
  · simp
  · split <;> simp
theorem UB.next {K M : Nat} {z : CLt} {U : List (Nat × Bool)} {V : List Nat} (h : CB K M z V) (hU : UB z U) : UB (gnext M z) (U ++ [(gnextX M z, gnextM M z)]) := by
  intro u hu
  have hq := (gnext_eq M z).2.2.2
  rcases List.mem_append.1 hu with e | e
  · have := hU u e
    exact ⟨fun h => by have := this.1 h; omega, by omega⟩
  · rw [List.mem_singleton.1 e]
    have h1 := h.pr
    have h2 := h.rq
    unfold gnextX gnextM gnext
    split
    · exact ⟨fun _ => by show z.q < z.q + 1; omega, by show z.q ≤ z.q + 1; omega⟩
    · rename_i hc
      split
      · rename_i he
        exact ⟨fun h => absurd h (by show ¬ (decide _ || decide _) = true; rw [decide_eq_false hc, decide_eq_false (fun hh => hh he)]; decide), Nat.le_refl _⟩
      · rename_i hne
        have := cplace_lt z hne (by omega)
        exact ⟨fun _ => by show z.p + cplace z < z.q; omega, by show z.p + cplace z ≤ z.q; omega⟩
theorem gtake_eq (du : Bool) (u : Nat × Bool) (z : CLt) : (gtake du u z).p = z.p ∧ (gtake du u z).q = z.q ∧ (gtake du u z).P = z.P ∧ (gtake du u z).pl = z.pl ∧ (gtake du u z).force = z.force ∧ z.r ≤ (gtake du u z).r ∧ ((gtake du u z).r = z.r ∨ (u.2 = true ∧ u.1 = z.r ∧ (gtake du u z).r = z.r + 1)) := by
  unfold gtake ctake
  split
  · split
    · rename_i h; simp [h]
    · simp
  · simp
theorem CB.take {K M : Nat} {z : CLt} {U : List (Nat × Bool)} {V : List Nat} {u : Nat × Bool} (h : CB K M z V) (hu : u.2 = true → u.1 < z.q) (du : Bool) : CB K M (gtake du u z) V := by
  obtain ⟨h1, h2, h3, h4, h5, h6, h7, h8, h9, h10, h11⟩ := h
  obtain ⟨e1, e2, e3, e4, e5, e6, e7⟩ := gtake_eq du u z
  refine ⟨by rw [e3]; exact h1, h2, h3, h4, by omega, ?_, by omega, by rw [e2, e1]; exact h8, by rw [e4, e2, e1]; exact h9, fun v hv => by have := h10 v hv; omega, h11⟩
  rcases e7 with e7 | ⟨q1, q2, q3⟩
  · omega
  · have := hu q1; omega
theorem CB.ans {K M : Nat} {z : CLt} {V : List Nat} {v : Nat} (h : CB K M z (v :: V)) (dv : Bool) : CB K M (gans dv v z) V := by
  obtain ⟨h1, h2, h3, h4, h5, h6, h7, h8, h9, h10, h11⟩ := h
  have hv := h10 v (by simp)
  have hs := List.pairwise_cons.1 h11
  cases dv with
  | false => exact ⟨h1, h2, h3, h4, h5, h6, h7, h8, h9, fun x hx => h10 x (by simp [hx]), hs.2⟩
  | true => exact ⟨h1, h2, h3, h4, hv.2, h6, h7, by show z.q - v ≤ M; omega, by show z.pl - (v - z.p) ≤ z.q - v; omega, fun x hx => ⟨hs.1 x hx, (h10 x (by simp [hx])).2⟩, hs.2⟩
theorem UB.same {z z' : CLt} {U : List (Nat × Bool)} (h : UB z U) (e : z'.q = z.q) : UB z' U := fun u hu => by rw [e]; exact h u hu
theorem gans_eq (dv : Bool) (v : Nat) (z : CLt) : (gans dv v z).q = z.q ∧ (gans dv v z).r = z.r ∧ (gans dv v z).P = z.P ∧ (gans dv v z).force = z.force := by
  unfold gans cans; split <;> simp
/-- How far it is does not grow where something is answered. -/
theorem cdist_ans (z : CLt) (v : Nat) (h1 : z.p ≤ v) (h2 : v ≤ z.r) (h3 : z.r ≤ z.q) (h4 : z.pl ≤ z.q - z.p) : cdist (cans v z) ≤ cdist z := by
  unfold cdist cans
  simp only
  split <;> split <;> omega
theorem cme_round {K M : Nat} {z : CLt} {U : List (Nat × Bool)} {V : List Nat} {u : Nat × Bool} {v : Nat} {U' : List (Nat × Bool)} {V' : List Nat} (h : CB K M z V) (hU : UB z U) (eU : U ++ [(gnextX M z, gnextM M z)] = u :: U') (eV : V ++ [z.r] = v :: V') (lU : U'.length ≤ 5) (lV : V'.length ≤ 5) :
    cme K (gans true v (gtake true u (gnext M z))) U' V' ≤ cme K z U V - 1 := by
  have hN := h.next
  have hUN := hU.next h
  rw [eU] at hUN
  rw [eV] at hN
  have hu := hUN u (by simp)
  have hT := CB.take (U := U) hN hu.1 true
  have hA := hT.ans true
  have hv := hT.vs v (by simp)
  have hbd := loc_bd hA (U := U') (by omega) (by omega)
  obtain ⟨t1, t2, t3, t4, t5, t6, t7⟩ := gtake_eq true u (gnext M z)
  obtain ⟨a1, a2, a3, a4⟩ := gans_eq true v (gtake true u (gnext M z))
  obtain ⟨n1, n2, n3, n4⟩ := gnext_eq M z
  have b1 := h.PK
  have b2 := h.K19
  have b3 := h.M1
  have b4 := h.M12
  have b5 := h.pr
  have b6 := h.rq
  have b7 := h.qK
  have b8 := h.win
  have b9 := h.plb
  have qN := hN.qK
  have hr : (gans true v (gtake true u (gnext M z))).r = (gtake true u (gnext M z)).r := a2
  have hq : (gans true v (gtake true u (gnext M z))).q = (gnext M z).q := by rw [a1, t2]
  by_cases hut : u = (z.r, true)
  · -- the next one is taken
    have e7 : (gtake true u (gnext M z)).r = z.r + 1 := by
      rw [hut]
      unfold gtake ctake
      rw [if_pos rfl, if_pos ⟨rfl, n2.symm⟩]
      show (gnext M z).r + 1 = _
      rw [n2]
    have hrK := hA.rq
    have hrK2 := hA.qK
    unfold cme
    rw [hr, hq, e7]
    omega
  · have e7 : gtake true u (gnext M z) = gnext M z := by
      unfold gtake ctake
      rw [if_pos rfl, if_neg (fun hh => hut (by rw [n2] at hh; exact Prod.ext hh.2 hh.1))]
    rw [e7] at hA hT hbd hr hq hv ⊢
    have hgz : gans true v (gnext M z) = cans v (gnext M z) := rfl
    rw [hgz] at hA hbd hr hq ⊢
    have hrr : (cans v (gnext M z)).r = z.r := n2
    have hpp : (cans v (gnext M z)).p = v := rfl
    have hff : (cans v (gnext M z)).force = (gnext M z).force := rfl
    have hVm : ∀ x ∈ V, z.p ≤ x ∧ x ≤ z.r := h.vs
    by_cases hrq : z.r < z.q
    · have hrq2 : (cans v (gnext M z)).r < (cans v (gnext M z)).q := by omega
      by_cases hin : (z.r, true) ∈ U
      · -- on its way
        cases U with
        | nil => simp at hin
        | cons u0 U0 =>
          simp only [List.cons_append, List.cons.injEq] at eU
          obtain ⟨rfl, rfl⟩ := eU
          have hin0 : (z.r, true) ∈ U0 := by
            rcases List.mem_cons.1 hin with e | e
            · exact absurd e.symm hut
            · exact e
          have hloc : loc K z (u0 :: U0) V = uidx z.r U0 + 2 := by
            unfold loc
            rw [if_pos hrq, if_pos hin]
            simp only [uidx]
            rw [if_neg hut]
          have hloc2 : loc K (cans v (gnext M z)) (U0 ++ [(gnextX M z, gnextM M z)]) V' = uidx z.r U0 + 1 := by
            unfold loc
            rw [if_pos hrq2, hrr, if_pos (by simp [hin0]), uidx_app hin0]
          unfold cme
          rw [hloc, hloc2, hrr, hq]
          omega
      · have hloc : loc K z U V = 7 + cdist z := by
          unfold loc
          rw [if_pos hrq, if_neg hin]
        by_cases hX : (gnextX M z, gnextM M z) = (z.r, true)
        · -- it goes
          have hin2 : (z.r, true) ∈ U' := by
            have : (z.r, true) ∈ u :: U' := by rw [← eU, ← hX]; simp
            rcases List.mem_cons.1 this with e | e
            · exact absurd e.symm hut
            · exact e
          have hloc2 : loc K (cans v (gnext M z)) U' V' ≤ 6 := by
            unfold loc
            rw [if_pos hrq2, hrr, if_pos hin2]
            have : uidx z.r U' < U'.length ∨ uidx z.r U' = U'.length := by have := uidx_le z.r U'; omega
            omega
          unfold cme
          rw [hloc, hrr, hq]
          omega
        · have hin2 : (z.r, true) ∉ U' := by
            intro hh
            have : (z.r, true) ∈ U ++ [(gnextX M z, gnextM M z)] := by rw [eU]; simp [hh]
            rcases List.mem_append.1 this with e | e
            · exact hin e
            · exact hX (List.mem_singleton.1 e).symm
          have hloc2 : loc K (cans v (gnext M z)) U' V' = 7 + cdist (cans v (gnext M z)) := by
            unfold loc
            rw [if_pos hrq2, hrr, if_neg hin2]
          have hca := cdist_ans (gnext M z) v hv.1 hv.2 (by omega) hN.plb
          have hnq : z.q ≠ z.p := by omega
          unfold cme
          rw [hloc, hloc2, hrr, hq]
          by_cases hc : z.force = false ∧ gover M z = false ∧ z.q < z.P
          · -- a new one goes
            have e1 : gnext M z = { z with q := z.q + 1 } := by unfold gnext; rw [if_pos hc]
            have e2 : cdist (gnext M z) ≤ cdist z + 1 := by
              rw [e1]
              unfold cdist
              simp only
              split <;> omega
            have e3 : (gnext M z).q = z.q + 1 := by rw [e1]
            have := hc.2.2
            omega
          · have e1 : gnext M z = { z with pl := cplace z + 1, force := if z.q - z.p ≤ z.pl then gover M z else z.force || gover M z } := by unfold gnext; rw [if_neg hc, if_neg hnq]
            have ex : gnextX M z = z.p + cplace z := by unfold gnextX; rw [if_neg hc, if_neg hnq]
            have em : gnextM M z = true := by unfold gnextM; rw [decide_eq_true hnq, Bool.or_true]
            have hne : z.p + cplace z ≠ z.r := fun hh => hX (by rw [ex, em, hh])
            have e2 : cdist (gnext M z) + 1 ≤ cdist z := by
              have hcp : cplace z = if z.q - z.p ≤ z.pl then 0 else z.pl := rfl
              rw [e1]
              show (if cplace z + 1 ≤ z.r - z.p then z.r - z.p - (cplace z + 1) else (z.q - z.p) - (cplace z + 1) + (z.r - z.p)) + 1 ≤ (if z.pl ≤ z.r - z.p then z.r - z.p - z.pl else (z.q - z.p) - z.pl + (z.r - z.p))
              by_cases h1 : z.q - z.p ≤ z.pl
              · rw [if_pos h1] at hcp
                rw [hcp] at hne ⊢
                split <;> split <;> omega
              · rw [if_neg h1] at hcp
                rw [hcp] at hne ⊢
                split <;> split <;> omega
            have e3 : (gnext M z).q = z.q := by rw [e1]
            omega
    · have hrq3 : z.r = z.q := by omega
      by_cases hc : z.force = false ∧ gover M z = false ∧ z.q < z.P
      · -- a new one goes
        have e1 : gnext M z = { z with q := z.q + 1 } := by unfold gnext; rw [if_pos hc]
        have e3 : (gnext M z).q = z.q + 1 := by rw [e1]
        have hqP := hc.2.2
        have hrq2 : (cans v (gnext M z)).r < (cans v (gnext M z)).q := by omega
        have ex : gnextX M z = z.r := by unfold gnextX; rw [if_pos hc, hrq3]
        have em : gnextM M z = true := by unfold gnextM; rw [decide_eq_true hc]; rfl
        have hin2 : (z.r, true) ∈ U' := by
          have : (z.r, true) ∈ u :: U' := by rw [← eU, ex, em]; simp
          rcases List.mem_cons.1 this with e | e
          · exact absurd e.symm hut
          · exact e
        have hloc2 : loc K (cans v (gnext M z)) U' V' ≤ 6 := by
          unfold loc
          rw [if_pos hrq2, hrr, if_pos hin2]
          have := uidx_le z.r U'
          omega
        have hloc : 7 ≤ loc K z U V := by unfold loc; rw [if_neg hrq, if_pos (by omega)]; omega
        unfold cme
        rw [hrr, hq]
        omega
      · have e3 : (gnext M z).q = z.q := by
          unfold gnext
          rw [if_neg hc]
          split <;> rfl
        have hrq2 : ¬ (cans v (gnext M z)).r < (cans v (gnext M z)).q := by omega
        -- what comes back
        have hcnt : wcnt z.r V' + (if v < z.r then 1 else 0) = wcnt z.r V := by
          have h1 : wcnt z.r (V ++ [z.r]) = wcnt z.r V := by rw [wcnt_snoc, if_neg (by omega)]; rfl
          rw [eV] at h1
          simp only [wcnt] at h1
          omega
        have hv0 : ¬ v < z.r → wcnt z.r V' = 0 := fun hh => wcnt_zero _ _ (fun x hx => by
          have := (List.pairwise_cons.1 hN.so).1 x hx
          omega)
        have hpv : z.p ≤ v := by have := hv.1; omega
        unfold cme
        rw [hrr, hq, e3]
        suffices hs : loc K (cans v (gnext M z)) U' V' ≤ loc K z U V - 1 by
          by_cases hK : z.r < K
          · have : 7 ≤ loc K z U V := by unfold loc; rw [if_neg hrq, if_pos hK]; omega
            omega
          · omega
        unfold loc
        rw [if_neg hrq2, if_neg hrq, hrr, hpp]
        by_cases hK : z.r < K
        · rw [if_pos hK, if_pos hK, hff]
          by_cases hp : z.p < z.r
          · rw [if_pos hp]
            by_cases hvr : v < z.r
            · rw [if_pos hvr] at hcnt ⊢
              omega
            · rw [if_neg hvr]
              have := hv0 hvr
              split <;> omega
          · rw [if_neg hp, if_neg (by omega)]
            have hqp : z.q = z.p := by omega
            have hgo : gover M z = false := by
              unfold gover
              rw [hqp, Nat.sub_self, decide_eq_false (show ¬ M ≤ 0 by omega), Bool.and_false]
            have hfo : z.force = true := by
              cases hf : z.force with
              | true => rfl
              | false => exact absurd ⟨hf, hgo, by omega⟩ hc
            have hfn : (gnext M z).force = false := by
              unfold gnext
              rw [if_neg hc, if_pos hqp]
            rw [hfn, hfo]
            decide
        · rw [if_neg hK, if_neg hK]
          by_cases hp : z.p < z.r
          · rw [if_pos hp]
            by_cases hvr : v < z.r
            · rw [if_pos hvr] at hcnt ⊢
              omega
            · rw [if_neg hvr, hv0 hvr]
              omega
          · rw [if_neg (by omega)]
            have := hv0 (by omega)
            omega
theorem cme_done {K M : Nat} {z : CLt} {U : List (Nat × Bool)} {V : List Nat} (h : CB K M z V) (h0 : cme K z U V ≤ 0) : z.r = K ∧ z.p = K ∧ z.q = K := by
  have b1 := h.pr
  have b2 := h.rq
  have b3 := h.qK
  unfold cme at h0
  have e1 : z.r = K := by omega
  have e2 : z.q = K := by omega
  have e3 : loc K z U V = 0 := by omega
  unfold loc at e3
  rw [if_neg (by omega), if_neg (by omega)] at e3
  refine ⟨e1, ?_, e2⟩
  split at e3 <;> omega
end Go.Proofs.Ytadheikcgdhcdaa
