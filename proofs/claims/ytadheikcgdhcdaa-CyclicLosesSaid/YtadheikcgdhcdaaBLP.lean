/-
  Each once, in order, by the basic method, over lines that hold units for a while: the plain law.
-/
import Derived.Test.YtadheikcgdhcdaaWLP
namespace Go.Proofs.Ytadheikcgdhcdaa
set_option linter.unusedVariables false
set_option linter.unusedSimpArgs false

/-- Two ways, and what is on its way: units there (indicator, place), units back (taken so far, indicator). -/
structure QSt where
  z : LSt
  U : List (Bool × Nat)
  V : List (Nat × Bool)
def qpush (s : QSt) : QSt := ⟨lnext s.z, s.U ++ [(s.z.fib, s.z.g)], s.V ++ [(s.z.r, s.z.bib)]⟩
def qtake (du : Bool) (u : Bool × Nat) (z : LSt) : LSt := if du = true then ltake u.1 u.2 (decide (u.2 < z.P)) z else z
def qans (dv : Bool) (v : Nat × Bool) (z : LSt) : LSt := if dv = true then lans v.1 v.2 z else z
/-- Places that go up one by one, the last one being that of what says nothing new. -/
def Cf (K : Nat) : Nat → List (Bool × Nat) → Nat → Prop
  | s, [], g => s = g
  | s, u :: l, g => u.2 = s ∧ Cf K (min (s + 1) K) l g
def vcnt (K : Nat) : List (Nat × Bool) → Nat
  | [] => 0
  | v :: l => (if v.1 < K then 1 else 0) + vcnt K l
theorem vcnt_snoc (K : Nat) (V : List (Nat × Bool)) (v : Nat × Bool) : vcnt K (V ++ [v]) = vcnt K V + (if v.1 < K then 1 else 0) := by
  induction V with
  | nil => simp [vcnt]
  | cons x l ih => simp only [List.cons_append, vcnt, ih]; omega
theorem vcnt_le (K : Nat) (V : List (Nat × Bool)) : vcnt K V ≤ V.length := by
  induction V with
  | nil => simp [vcnt]
  | cons x l ih => simp only [vcnt, List.length_cons]; split <;> omega
theorem vcnt_zero (K : Nat) (V : List (Nat × Bool)) (h : ∀ v ∈ V, K ≤ v.1) : vcnt K V = 0 := by
  induction V with
  | nil => rfl
  | cons x l ih =>
    have h1 := h x (by simp)
    simp only [vcnt]
    rw [if_neg (by omega), ih (fun v hv => h v (by simp [hv]))]
theorem Cf.snoc {K g : Nat} {b : Bool} : ∀ {s : Nat} {l : List (Bool × Nat)}, Cf K s l g → Cf K s (l ++ [(b, g)]) (min (g + 1) K)
  | s, [], h => ⟨h.symm, by have : s = g := h; subst this; rfl⟩
  | s, u :: l, h => ⟨h.1, Cf.snoc h.2⟩
theorem Cf.le {K g : Nat} : ∀ {s : Nat} {l : List (Bool × Nat)}, s ≤ K → Cf K s l g → s ≤ g ∧ g ≤ K
  | s, [], hs, h => by have : s = g := h; subst this; exact ⟨Nat.le_refl _, hs⟩
  | s, u :: l, hs, h => by
    have := Cf.le (by omega) h.2
    omega
theorem Cf.all {K g : Nat} : ∀ {s : Nat} {l : List (Bool × Nat)}, s ≤ K → Cf K s l g → ∀ u ∈ l, s ≤ u.2 ∧ u.2 ≤ K
  | s, [], hs, h => by simp
  | s, u :: l, hs, h => by
    intro x hx
    rcases List.mem_cons.1 hx with e | e
    · rw [e, h.1]; exact ⟨Nat.le_refl _, hs⟩
    · have := Cf.all (by omega) h.2 x e
      omega
/-- What holds of the places. -/
structure QB (K : Nat) (z : LSt) (U : List (Bool × Nat)) (V : List (Nat × Bool)) : Prop where
  PK : z.P = K
  K39 : K ≤ 39
  pr : z.p ≤ z.r
  rg : z.r ≤ z.g
  gq : z.g ≤ z.q
  qK : z.q ≤ K
  us : ∀ u ∈ U, z.r ≤ u.2 ∧ u.2 ≤ K
  vs : ∀ v ∈ V, z.p ≤ v.1 ∧ v.1 ≤ z.r
  so : V.Pairwise (fun a b => a.1 ≤ b.1)
/-- Both are of one mind; and how many rounds are wanted yet. -/
structure Q1 (K e n : Nat) (z : LSt) (U1 U2 : List (Bool × Nat)) (V : List (Nat × Bool)) (s : Nat) : Prop where
  fb : z.fib = z.bib
  u1 : ∀ u ∈ U1, u.1 = !z.bib
  as : U1 ≠ [] → z.asked = true
  u2 : ∀ u ∈ U2, u.1 = z.bib
  rs : z.r ≤ s
  sK : s ≤ K
  cf : Cf K s U2 z.g
  v1 : ∀ v ∈ V, v.2 = z.bib
  me : if s = z.r then U1.length + (K - z.r) + vcnt K V + (if z.p < K then 1 else 0) ≤ n + (if z.r < K then e else 0) else 71 + U1.length ≤ n
/-- It is asked again, and not heard yet. -/
structure Q0 (n : Nat) (z : LSt) (U : List (Bool × Nat)) (V1 V2 : List (Nat × Bool)) : Prop where
  fb : z.fib = !z.bib
  as : z.asked = true
  u1 : ∀ u ∈ U, u.1 = z.fib
  v1 : ∀ v ∈ V1, v.2 = z.fib
  v2 : ∀ v ∈ V2, v.2 = z.bib ∧ v.1 = z.r
  me : 61 + V1.length ≤ n
def QI (K e n : Nat) (s : QSt) : Prop := QB K s.z s.U s.V ∧ ((∃ U1 U2 x, s.U = U1 ++ U2 ∧ Q1 K e n s.z U1 U2 s.V x) ∨ (∃ V1 V2, s.V = V1 ++ V2 ∧ Q0 n s.z s.U V1 V2))

theorem lnext_eq {K : Nat} {z : LSt} (hP : z.P = K) (hg : z.g ≤ z.q) (hq : z.q ≤ K) : ∃ q', lnext z = { z with g := min (z.g + 1) K, q := q' } ∧ z.q ≤ q' ∧ q' ≤ K ∧ min (z.g + 1) K ≤ q' := by
  unfold lnext
  by_cases h : z.g < z.P
  · rw [if_pos h]
    exact ⟨max z.q (z.g + 1), by congr 1; omega, by omega, by omega, by omega⟩
  · rw [if_neg h]
    exact ⟨z.q, by have : min (z.g + 1) K = z.g := by omega
                   rw [this], by omega, by omega, by omega⟩
theorem QI.push {K n : Nat} {s : QSt} (h : QI K 0 n s) : QI K 1 n (qpush s) := by
  obtain ⟨hB, hC⟩ := h
  obtain ⟨q', hn, l1, l2, l3⟩ := lnext_eq hB.PK hB.gq hB.qK
  obtain ⟨z, U, V⟩ := s
  simp only at hB hC hn l1 l2 l3
  have b1 := hB.PK
  have b3 := hB.pr
  have b4 := hB.rg
  have b5 := hB.gq
  have b6 := hB.qK
  unfold qpush
  simp only [hn]
  refine ⟨⟨b1, hB.K39, b3, by show z.r ≤ min (z.g + 1) K; omega, l3, l2, ?_, ?_, ?_⟩, ?_⟩
  · intro u hu
    rcases List.mem_append.1 hu with e | e
    · exact hB.us u e
    · rw [List.mem_singleton.1 e]; exact ⟨b4, by show z.g ≤ K; omega⟩
  · intro v hv
    rcases List.mem_append.1 hv with e | e
    · exact hB.vs v e
    · rw [List.mem_singleton.1 e]; exact ⟨b3, Nat.le_refl _⟩
  · rw [List.pairwise_append]
    refine ⟨hB.so, List.pairwise_singleton _ _, fun a ha b hb => ?_⟩
    rw [List.mem_singleton.1 hb]
    exact (hB.vs a ha).2
  · rcases hC with ⟨U1, U2, x, e, hq⟩ | ⟨V1, V2, e, hq⟩
    · subst e
      refine .inl ⟨U1, U2 ++ [(z.fib, z.g)], x, by simp, ⟨hq.fb, hq.u1, hq.as, ?_, hq.rs, hq.sK, hq.cf.snoc, ?_, ?_⟩⟩
      · intro u hu
        rcases List.mem_append.1 hu with e | e
        · exact hq.u2 u e
        · rw [List.mem_singleton.1 e]; exact hq.fb
      · intro v hv
        rcases List.mem_append.1 hv with e | e
        · exact hq.v1 v e
        · rw [List.mem_singleton.1 e]
      · have := hq.me
        rw [vcnt_snoc]
        show if x = z.r then U1.length + (K - z.r) + (vcnt K V + if z.r < K then 1 else 0) + (if z.p < K then 1 else 0) ≤ n + (if z.r < K then 1 else 0) else 71 + U1.length ≤ n
        split
        · rename_i hx
          rw [if_pos hx] at this
          by_cases h1 : z.r < K
          · simp only [h1, if_true] at this ⊢
            omega
          · simp only [h1, if_false] at this ⊢
            omega
        · rename_i hx
          rw [if_neg hx] at this
          exact this
    · subst e
      refine .inr ⟨V1, V2 ++ [(z.r, z.bib)], by simp, ⟨hq.fb, hq.as, ?_, hq.v1, ?_, hq.me⟩⟩
      · intro u hu
        rcases List.mem_append.1 hu with e | e
        · exact hq.u1 u e
        · rw [List.mem_singleton.1 e]
      · intro v hv
        rcases List.mem_append.1 hv with e | e
        · exact hq.v2 v e
        · rw [List.mem_singleton.1 e]; exact ⟨rfl, rfl⟩
/-- The bound of all of it. -/
theorem QI.bd {K e n : Nat} {s : QSt} (h : QI K e n s) (hU : s.U.length ≤ 6) (hV : s.V.length ≤ 6) : QI K 0 100 s := by
  obtain ⟨hB, hC⟩ := h
  refine ⟨hB, ?_⟩
  have h39 := hB.K39
  have hc := vcnt_le K s.V
  rcases hC with ⟨U1, U2, x, e, hq⟩ | ⟨V1, V2, e, hq⟩
  · have : U1.length ≤ s.U.length := by rw [e, List.length_append]; omega
    refine .inl ⟨U1, U2, x, e, ⟨hq.fb, hq.u1, hq.as, hq.u2, hq.rs, hq.sK, hq.cf, hq.v1, ?_⟩⟩
    split
    · split <;> omega
    · omega
  · have : V1.length ≤ s.V.length := by rw [e, List.length_append]; omega
    exact .inr ⟨V1, V2, e, ⟨hq.fb, hq.as, hq.u1, hq.v1, hq.v2, by omega⟩⟩
theorem ltake_odd {uf : Bool} {x : Nat} {m : Bool} {z : LSt} (h : uf = !z.bib) : ltake uf x m z = z := by
  unfold ltake
  rw [if_neg (by rw [h]; cases z.bib <;> decide)]
/-- A unit comes there. -/
theorem QI.take {K e n : Nat} {z : LSt} {u : Bool × Nat} {U : List (Bool × Nat)} {V : List (Nat × Bool)} (h : QI K e n ⟨z, u :: U, V⟩) (du : Bool) (hU : U.length ≤ 5) (hV : V.length ≤ 6) : QI K 0 100 ⟨qtake du u z, U, V⟩ := by
  suffices h : ∃ n, QI K 0 n ⟨qtake du u z, U, V⟩ by
    obtain ⟨n, h⟩ := h
    exact h.bd (by show U.length ≤ 6; omega) hV
  obtain ⟨hB, hC⟩ := h
  simp only at hB hC
  have b1 := hB.PK
  have b3 := hB.pr
  have b4 := hB.rg
  have b5 := hB.gq
  have b6 := hB.qK
  have hu := hB.us u (by simp)
  have hB' : QB K z U V := ⟨b1, hB.K39, b3, b4, b5, b6, fun x hx => hB.us x (by simp [hx]), hB.vs, hB.so⟩
  rcases hC with ⟨U1, U2, x, e, hq⟩ | ⟨V1, V2, e, hq⟩
  · cases U1 with
    | cons u1 U1 =>
      simp only [List.cons_append, List.cons.injEq] at e
      obtain ⟨rfl, rfl⟩ := e
      have hz : qtake du u z = z := by
        unfold qtake
        split
        · exact ltake_odd (hq.u1 u (by simp))
        · rfl
      rw [hz]
      refine ⟨n + 200 + U1.length + vcnt K V, hB', .inl ⟨U1, U2, x, rfl, ⟨hq.fb, fun x hx => hq.u1 x (by simp [hx]), fun _ => hq.as (by simp), hq.u2, hq.rs, hq.sK, hq.cf, hq.v1, ?_⟩⟩⟩
      have := hB.K39
      show if x = z.r then U1.length + (K - z.r) + vcnt K V + (if z.p < K then 1 else 0) ≤ n + 200 + U1.length + vcnt K V + (if z.r < K then 0 else 0) else 71 + U1.length ≤ n + 200 + U1.length + vcnt K V
      split
      · split <;> omega
      · omega
    | nil =>
      simp only [List.nil_append] at e
      subst e
      obtain ⟨hc1, hc2⟩ := hq.cf
      subst hc1
      have hv := hq.v1
      have hub := hq.u2 u (by simp)
      have hst : z.bib = z.bib := rfl
      have hx : ∀ y ∈ U, min (u.2 + 1) K ≤ y.2 ∧ y.2 ≤ K := Cf.all (by omega) hc2
      have h39 := hB.K39
      cases du with
      | false =>
        refine ⟨n + 200 + vcnt K V, ?_, .inl ⟨[], U, min (u.2 + 1) K, rfl, ⟨hq.fb, by simp, by simp, fun x hx => hq.u2 x (by simp [hx]), ?_, by omega, hc2, hv, ?_⟩⟩⟩
        · exact hB'
        · show z.r ≤ _; omega
        · show if _ then _ else _
          split
          · simp only [List.length_nil]; show 0 + (K - z.r) + vcnt K V + (if z.p < K then 1 else 0) ≤ _; split <;> omega
          · simp only [List.length_nil]; omega
      | true =>
        unfold qtake
        rw [if_pos rfl]
        unfold ltake
        rw [if_pos hub, show decide (u.2 < z.P) = decide (u.2 < K) from by rw [b1]]
        by_cases hr : u.2 = z.r
        · rw [if_pos hr]
          by_cases hm : u.2 < K
          · rw [if_pos (by simpa using hm)]
            refine ⟨n + 200 + vcnt K V, ⟨b1, h39, by show z.p ≤ z.r + 1; omega, ?_, b5, b6, fun y hy => by have := hx y hy; exact ⟨by show z.r + 1 ≤ _; omega, by omega⟩, fun v hv => by have := hB.vs v hv; exact ⟨this.1, by show v.1 ≤ z.r + 1; omega⟩, hB.so⟩, .inl ⟨[], U, min (u.2 + 1) K, rfl, ⟨hq.fb, by simp, by simp, fun x hx => hq.u2 x (by simp [hx]), by show z.r + 1 ≤ _; omega, by omega, hc2, hv, ?_⟩⟩⟩
            · have := (Cf.le (by omega) hc2).1
              show z.r + 1 ≤ z.g; omega
            · split
              · simp only [List.length_nil]; show 0 + (K - (z.r + 1)) + vcnt K V + (if z.p < K then 1 else 0) ≤ _; split <;> omega
              · simp only [List.length_nil]; omega
          · rw [if_neg (by simpa using hm)]
            refine ⟨n + 200 + vcnt K V, ⟨b1, h39, b3, b4, b5, b6, fun x hx => hB.us x (by simp [hx]), hB.vs, hB.so⟩, .inl ⟨[], U, min (u.2 + 1) K, rfl, ⟨hq.fb, by simp, by simp, fun x hx => hq.u2 x (by simp [hx]), by show z.r ≤ _; omega, by omega, hc2, hv, ?_⟩⟩⟩
            split
            · simp only [List.length_nil]; show 0 + (K - z.r) + vcnt K V + (if z.p < K then 1 else 0) ≤ _; split <;> omega
            · simp only [List.length_nil]; omega
        · rw [if_neg hr]
          refine ⟨61 + V.length, ⟨b1, h39, b3, b4, b5, b6, fun x hx => hB.us x (by simp [hx]), hB.vs, hB.so⟩, .inr ⟨V, [], by simp, ⟨?_, rfl, ?_, ?_, by simp, Nat.le_refl _⟩⟩⟩
          · show z.fib = !!z.bib; rw [hq.fb]; simp
          · intro y hy; show y.1 = z.fib; rw [hq.fb]; exact hq.u2 y (by simp [hy])
          · intro y hy; show y.2 = z.fib; rw [hq.fb]; exact hq.v1 y hy
  · have hz : qtake du u z = z := by
      unfold qtake
      split
      · exact ltake_odd (by rw [hq.u1 u (by simp), hq.fb])
      · rfl
    rw [hz]
    exact ⟨n, hB', .inr ⟨V1, V2, e, ⟨hq.fb, hq.as, fun x hx => hq.u1 x (by simp [hx]), hq.v1, hq.v2, hq.me⟩⟩⟩
/-- A unit comes back. -/
theorem QI.ans {K e n : Nat} {z : LSt} {v : Nat × Bool} {U : List (Bool × Nat)} {V : List (Nat × Bool)} (h : QI K e n ⟨z, U, v :: V⟩) (dv : Bool) (hU : U.length ≤ 6) (hV : V.length ≤ 5) : QI K 0 100 ⟨qans dv v z, U, V⟩ := by
  suffices h : ∃ n, QI K 0 n ⟨qans dv v z, U, V⟩ by
    obtain ⟨n, h⟩ := h
    exact h.bd hU (by show V.length ≤ 6; omega)
  obtain ⟨hB, hC⟩ := h
  simp only at hB hC
  have b1 := hB.PK
  have b3 := hB.pr
  have b4 := hB.rg
  have b5 := hB.gq
  have b6 := hB.qK
  have h39 := hB.K39
  have hv := hB.vs v (by simp)
  have hso := List.pairwise_cons.1 hB.so
  have hB' : QB K z U V := ⟨b1, hB.K39, b3, b4, b5, b6, hB.us, fun x hx => hB.vs x (by simp [hx]), hso.2⟩
  have hA : v.2 = z.fib → lans v.1 v.2 z = { z with p := v.1 } := fun e => by
    unfold lans
    rw [if_pos e, show max z.g v.1 = z.g from by omega, e]
  have hBA : QB K { z with p := v.1 } U V := ⟨b1, hB.K39, hv.2, b4, b5, b6, hB.us, fun x hx => ⟨hso.1 x hx, (hB.vs x (by simp [hx])).2⟩, hso.2⟩
  rcases hC with ⟨U1, U2, x, e, hq⟩ | ⟨V1, V2, e, hq⟩
  · have key : ∀ p, (QB K { z with p := p } U V) → ∃ n, QI K 0 n ⟨{ z with p := p }, U, V⟩ := fun p hp => by
      refine ⟨n + 200 + U1.length + vcnt K V, hp, .inl ⟨U1, U2, x, e, ⟨hq.fb, hq.u1, hq.as, hq.u2, hq.rs, hq.sK, hq.cf, fun v hv => hq.v1 v (by simp [hv]), ?_⟩⟩⟩
      split
      · show U1.length + (K - z.r) + vcnt K V + (if p < K then 1 else 0) ≤ _; split <;> omega
      · omega
    cases dv with
    | false => exact key z.p hB'
    | true =>
      show ∃ n, QI K 0 n ⟨lans v.1 v.2 z, U, V⟩
      rw [hA (by rw [hq.v1 v (by simp), hq.fb])]
      exact key v.1 hBA
  · cases V1 with
    | cons v1 V1 =>
      simp only [List.cons_append, List.cons.injEq] at e
      obtain ⟨rfl, rfl⟩ := e
      have key : ∀ p, (QB K { z with p := p } U (V1 ++ V2)) → ∃ n, QI K 0 n ⟨{ z with p := p }, U, V1 ++ V2⟩ := fun p hp =>
        ⟨n, hp, .inr ⟨V1, V2, rfl, ⟨hq.fb, hq.as, hq.u1, fun x hx => hq.v1 x (by simp [hx]), hq.v2, by have := hq.me; simp only [List.length_cons] at this; omega⟩⟩⟩
      cases dv with
      | false => exact key z.p hB'
      | true =>
        show ∃ n, QI K 0 n ⟨lans v.1 v.2 z, U, V1 ++ V2⟩
        rw [hA (hq.v1 v (by simp))]
        exact key v.1 hBA
    | nil =>
      simp only [List.nil_append] at e
      subst e
      have hv2 := hq.v2 v (by simp)
      cases dv with
      | false => exact ⟨n, hB', .inr ⟨[], V, by simp, ⟨hq.fb, hq.as, hq.u1, by simp, fun x hx => hq.v2 x (by simp [hx]), by have := hq.me; simp only [List.length_nil] at this ⊢; omega⟩⟩⟩
      | true =>
        show ∃ n, QI K 0 n ⟨lans v.1 v.2 z, U, V⟩
        have hne : ¬ v.2 = z.fib := by rw [hv2.1, hq.fb]; cases z.bib <;> decide
        have hA2 : lans v.1 v.2 z = { z with p := z.r, g := z.r, fib := z.bib } := by
          unfold lans
          rw [if_neg hne, hv2.1, hv2.2]
        rw [hA2]
        refine ⟨200 + U.length + vcnt K V, ⟨b1, h39, Nat.le_refl _, Nat.le_refl _, by show z.r ≤ z.q; omega, b6, hB.us, fun x hx => ?_, hso.2⟩, .inl ⟨U, [], z.r, by simp, ⟨rfl, ?_, fun _ => hq.as, by simp, Nat.le_refl _, by show z.r ≤ K; omega, rfl, fun x hx => (hq.v2 x (by simp [hx])).1, ?_⟩⟩⟩
        · have := (hq.v2 x (by simp [hx])).2
          show z.r ≤ x.1 ∧ x.1 ≤ z.r
          omega
        · intro y hy; show y.1 = !z.bib; rw [hq.u1 y hy, hq.fb]
        · show if z.r = z.r then U.length + (K - z.r) + vcnt K V + (if z.r < K then 1 else 0) ≤ _ else _
          rw [if_pos rfl]
          split <;> omega
/-- A whole round in which nothing is lost. -/
theorem QI.round {K n : Nat} {z : LSt} {u : Bool × Nat} {v : Nat × Bool} {U : List (Bool × Nat)} {V : List (Nat × Bool)} (h : QI K 1 n ⟨z, u :: U, v :: V⟩) (hU : U.length ≤ 5) (hV : V.length ≤ 5) : QI K 0 (n - 1) ⟨qans true v (qtake true u z), U, V⟩ := by
  obtain ⟨hB, hC⟩ := h
  simp only at hB hC
  have b1 := hB.PK
  have b3 := hB.pr
  have b4 := hB.rg
  have b5 := hB.gq
  have b6 := hB.qK
  have h39 := hB.K39
  have hu := hB.us u (by simp)
  have hv := hB.vs v (by simp)
  have hso := List.pairwise_cons.1 hB.so
  have hcl := vcnt_le K V
  have hA : ∀ z2 : LSt, v.1 ≤ z2.g → v.2 = z2.fib → qans true v z2 = { z2 with p := v.1 } := fun z2 hg e => by
    unfold qans lans
    rw [if_pos rfl, if_pos e, show max z2.g v.1 = z2.g from by omega, e]
  have hBA : QB K { z with p := v.1 } U V := ⟨b1, h39, hv.2, b4, b5, b6, fun x hx => hB.us x (by simp [hx]), fun x hx => ⟨hso.1 x hx, (hB.vs x (by simp [hx])).2⟩, hso.2⟩
  rcases hC with ⟨U1, U2, x, e, hq⟩ | ⟨V1, V2, e, hq⟩
  · have hvb := hq.v1 v (by simp)
    have hme := hq.me
    simp only [vcnt] at hme
    cases U1 with
    | cons u1 U1 =>
      simp only [List.cons_append, List.cons.injEq] at e
      obtain ⟨rfl, rfl⟩ := e
      have hz : qtake true u z = z := by
        unfold qtake
        rw [if_pos rfl]
        exact ltake_odd (hq.u1 u (by simp))
      rw [hz, hA z (by omega) (by rw [hvb, hq.fb])]
      refine ⟨hBA, .inl ⟨U1, U2, x, rfl, ⟨hq.fb, fun x hx => hq.u1 x (by simp [hx]), fun _ => hq.as (by simp), hq.u2, hq.rs, hq.sK, hq.cf, fun x hx => hq.v1 x (by simp [hx]), ?_⟩⟩⟩
      show if x = z.r then U1.length + (K - z.r) + vcnt K V + (if v.1 < K then 1 else 0) ≤ _ else _
      simp only [List.length_cons] at hme
      by_cases hx : x = z.r
      · rw [if_pos hx] at hme ⊢
        by_cases h1 : z.r < K
        · rw [if_pos h1, if_pos (show v.1 < K by omega), if_pos (show z.p < K by omega)] at hme
          rw [if_pos (show v.1 < K by omega)]
          simp only [h1, if_true]
          omega
        · rw [if_neg h1] at hme ⊢
          by_cases h2 : v.1 < K
          · rw [if_pos h2] at hme ⊢; omega
          · rw [if_neg h2] at hme ⊢; omega
      · rw [if_neg hx] at hme ⊢; omega
    | nil =>
      simp only [List.nil_append] at e
      subst e
      obtain ⟨hc1, hc2⟩ := hq.cf
      subst hc1
      have hub := hq.u2 u (by simp)
      have hx : ∀ y ∈ U, min (u.2 + 1) K ≤ y.2 ∧ y.2 ≤ K := Cf.all (by omega) hc2
      have hg := (Cf.le (by omega) hc2).1
      simp only [List.length_nil] at hme
      unfold qtake
      rw [if_pos rfl]
      unfold ltake
      rw [if_pos hub, show decide (u.2 < z.P) = decide (u.2 < K) from by rw [b1]]
      by_cases hr : u.2 = z.r
      · rw [if_pos hr]
        rw [if_pos hr] at hme
        by_cases hm : u.2 < K
        · rw [if_pos (by simpa using hm), hA _ (by show v.1 ≤ z.g; omega) (by show v.2 = z.fib; rw [hvb, hq.fb])]
          refine ⟨⟨b1, h39, by show v.1 ≤ z.r + 1; omega, by show z.r + 1 ≤ z.g; omega, b5, b6, fun y hy => by have := hx y hy; exact ⟨by show z.r + 1 ≤ _; omega, by omega⟩, fun x hx => by have := hB.vs x (by simp [hx]); exact ⟨hso.1 x hx, by show x.1 ≤ z.r + 1; omega⟩, hso.2⟩, .inl ⟨[], U, min (u.2 + 1) K, rfl, ⟨hq.fb, by simp, by simp, fun x hx => hq.u2 x (by simp [hx]), by show z.r + 1 ≤ _; omega, by omega, hc2, fun x hx => hq.v1 x (by simp [hx]), ?_⟩⟩⟩
          show if min (u.2 + 1) K = z.r + 1 then 0 + (K - (z.r + 1)) + vcnt K V + (if v.1 < K then 1 else 0) ≤ n - 1 + (if z.r + 1 < K then 0 else 0) else _
          rw [if_pos (by omega)]
          rw [if_pos (show v.1 < K by omega), if_pos (show z.p < K by omega), if_pos (show z.r < K by omega)] at hme
          rw [if_pos (show v.1 < K by omega)]
          split <;> omega
        · rw [if_neg (by simpa using hm), hA _ (by show v.1 ≤ z.g; omega) (by show v.2 = z.fib; rw [hvb, hq.fb])]
          refine ⟨⟨b1, h39, hv.2, b4, b5, b6, fun x hx => hB.us x (by simp [hx]), fun x hx => ⟨hso.1 x hx, (hB.vs x (by simp [hx])).2⟩, hso.2⟩, .inl ⟨[], U, min (u.2 + 1) K, rfl, ⟨hq.fb, by simp, by simp, fun x hx => hq.u2 x (by simp [hx]), by show z.r ≤ _; omega, by omega, hc2, fun x hx => hq.v1 x (by simp [hx]), ?_⟩⟩⟩
          show if min (u.2 + 1) K = z.r then 0 + (K - z.r) + vcnt K V + (if v.1 < K then 1 else 0) ≤ n - 1 + (if z.r < K then 0 else 0) else _
          rw [if_pos (by omega)]
          rw [if_neg (show ¬ z.r < K by omega)] at hme ⊢
          by_cases h2 : v.1 < K
          · rw [if_pos h2, if_pos (show z.p < K by omega)] at hme
            rw [if_pos h2]
            omega
          · rw [vcnt_zero K V (fun y hy => by have := hso.1 y hy; omega), if_neg h2]
            omega
      · rw [if_neg hr]
        rw [if_neg hr] at hme
        rw [hA _ (by show v.1 ≤ z.g; omega) (by show v.2 = z.fib; rw [hvb, hq.fb])]
        refine ⟨⟨b1, h39, hv.2, b4, b5, b6, fun x hx => hB.us x (by simp [hx]), fun x hx => ⟨hso.1 x hx, (hB.vs x (by simp [hx])).2⟩, hso.2⟩, .inr ⟨V, [], by simp, ⟨?_, rfl, ?_, ?_, by simp, by omega⟩⟩⟩
        · show z.fib = !!z.bib; rw [hq.fb]; simp
        · intro y hy; show y.1 = z.fib; rw [hq.fb]; exact hq.u2 y (by simp [hy])
        · intro y hy; show y.2 = z.fib; rw [hq.fb]; exact hq.v1 y (by simp [hy])
  · have hz : qtake true u z = z := by
      unfold qtake
      rw [if_pos rfl]
      exact ltake_odd (by rw [hq.u1 u (by simp), hq.fb])
    rw [hz]
    have hme := hq.me
    cases V1 with
    | cons v1 V1 =>
      simp only [List.cons_append, List.cons.injEq] at e
      obtain ⟨rfl, rfl⟩ := e
      rw [hA z (by omega) (hq.v1 v (by simp))]
      simp only [List.length_cons] at hme
      exact ⟨hBA, .inr ⟨V1, V2, rfl, ⟨hq.fb, hq.as, fun x hx => hq.u1 x (by simp [hx]), fun x hx => hq.v1 x (by simp [hx]), hq.v2, by omega⟩⟩⟩
    | nil =>
      simp only [List.nil_append] at e
      subst e
      have hv2 := hq.v2 v (by simp)
      have hne : ¬ v.2 = z.fib := by rw [hv2.1, hq.fb]; cases z.bib <;> decide
      have hA2 : qans true v z = { z with p := z.r, g := z.r, fib := z.bib } := by
        unfold qans lans
        rw [if_pos rfl, if_neg hne, hv2.1, hv2.2]
      rw [hA2]
      simp only [List.length_nil] at hme
      refine ⟨⟨b1, h39, Nat.le_refl _, Nat.le_refl _, by show z.r ≤ z.q; omega, b6, fun x hx => hB.us x (by simp [hx]), fun x hx => ?_, hso.2⟩, .inl ⟨U, [], z.r, by simp, ⟨rfl, ?_, fun _ => hq.as, by simp, Nat.le_refl _, by show z.r ≤ K; omega, rfl, fun x hx => (hq.v2 x (by simp [hx])).1, ?_⟩⟩⟩
      · have := (hq.v2 x (by simp [hx])).2
        show z.r ≤ x.1 ∧ x.1 ≤ z.r
        omega
      · intro y hy; show y.1 = !z.bib; rw [hq.u1 y (by simp [hy]), hq.fb]
      · show if z.r = z.r then U.length + (K - z.r) + vcnt K V + (if z.r < K then 1 else 0) ≤ _ else _
        rw [if_pos rfl]
        split <;> omega
theorem QI.done {K e : Nat} {s : QSt} (h : QI K e 0 s) (he : e = 0) : s.z.r = K ∧ s.z.p = K ∧ s.z.q = K := by
  subst he
  obtain ⟨hB, hC⟩ := h
  have b3 := hB.pr
  have b4 := hB.rg
  have b5 := hB.gq
  have b6 := hB.qK
  rcases hC with ⟨U1, U2, x, e, hq⟩ | ⟨V1, V2, e, hq⟩
  · have hme := hq.me
    split at hme
    · by_cases hp : s.z.p < K
      · rw [if_pos hp] at hme
        split at hme <;> omega
      · rw [if_neg hp] at hme
        split at hme <;> omega
    · omega
  · have := hq.me
    omega
/-- What is asked of a unit that comes there. -/
theorem QI.headU {K e n : Nat} {z : LSt} {u : Bool × Nat} {U : List (Bool × Nat)} {V : List (Nat × Bool)} (h : QI K e n ⟨z, u :: U, V⟩) : z.r ≤ u.2 ∧ u.2 ≤ K ∧ (u.1 = z.bib ∨ z.asked = true) := by
  have hu := h.1.us u (by simp)
  refine ⟨hu.1, hu.2, ?_⟩
  rcases h.2 with ⟨U1, U2, x, e, hq⟩ | ⟨V1, V2, e, hq⟩
  · simp only at e hq
    cases U1 with
    | cons u1 U1 => exact .inr (hq.as (by simp))
    | nil =>
      simp only [List.nil_append] at e
      subst e
      exact .inl (hq.u2 u (by simp))
  · exact .inr hq.as
end Go.Proofs.Ytadheikcgdhcdaa
