/-
  A region that draws its order: what reads is walked once, in the order of the text; the stores at its end behind it.
-/
import Derived.Test.YtadheikcgdhcdaaRq
import Derived.StillTail
namespace Go.Proofs.Ytadheikcgdhcdaa
open Go.RowKit Go.Sort
set_option linter.unusedVariables false

/-- The first n operations wait for none behind them, and what stands behind waits for all of them. -/
def frontB (ops : Array Oper) (n : Nat) : Bool :=
  (List.range ops.size).all fun j =>
    if j < n then
      (match ops[j]? with
       | some o => (o.after.all fun e => !Region.binds .any e || decide (e.on < j)) && (match o.guard with | some (g, _) => decide (g < n) | none => true)
       | none => false)
    else (List.range n).all fun i => Region.waitsFor .any ops j i || (List.range n).any fun k => decide (i < k) && Region.waitsFor .any ops k i
theorem frontB_spec {ops : Array Oper} {n : Nat} (h : frontB ops n = true) :
    (∀ i o, i < n → ops[i]? = some o → ∀ e ∈ o.after, Region.binds .any e = true → e.on < i) ∧ (∀ i o g b, i < n → ops[i]? = some o → o.guard = some (g, b) → g < n) ∧
    (∀ j oj, n ≤ j → ops[j]? = some oj → ∀ i, i < n → (∃ e ∈ oj.after, Region.binds .any e = true ∧ e.on = i) ∨ ∃ k ok, i < k ∧ k < n ∧ ops[k]? = some ok ∧ ∃ e ∈ ok.after, Region.binds .any e = true ∧ e.on = i) := by
  unfold frontB at h
  rw [List.all_eq_true] at h
  have lt : ∀ (i : Nat) (o : Oper), ops[i]? = some o → i < ops.size := fun i o ho => (Array.getElem?_eq_some_iff.1 ho).1
  refine ⟨fun i o hi ho e he hb => ?_, fun i o g b hi ho hg => ?_, fun j oj hj hoj i hi => ?_⟩
  · have := h i (List.mem_range.2 (lt i o ho))
    rw [if_pos hi] at this
    simp only [ho, Bool.and_eq_true] at this
    have h2 := Array.all_eq_true'.1 this.1 e he
    simpa [hb] using h2
  · have := h i (List.mem_range.2 (lt i o ho))
    rw [if_pos hi] at this
    simp only [ho, Bool.and_eq_true, hg] at this
    simpa using this.2
  · have := h j (List.mem_range.2 (lt j oj hoj))
    rw [if_neg (by omega)] at this
    rw [List.all_eq_true] at this
    have h5 := this i (List.mem_range.2 hi)
    rw [Bool.or_eq_true] at h5
    rcases h5 with h5 | h5
    · obtain ⟨oj', h1, e, h2, h3, h4⟩ := Region.waitsFor_spec h5
      rw [hoj] at h1
      obtain rfl := Option.some.inj h1
      exact .inl ⟨e, h2, h3, h4⟩
    · rw [List.any_eq_true] at h5
      obtain ⟨k, hk, h6⟩ := h5
      rw [Bool.and_eq_true] at h6
      obtain ⟨ok, h1, e, h2, h3, h4⟩ := Region.waitsFor_spec h6.2
      exact .inr ⟨k, ok, of_decide_eq_true h6.1, List.mem_range.1 hk, h1, e, h2, h3, h4⟩
theorem getD_list (L : List Bool) (i : Nat) (d b : Bool) (h : L[i]? = some b) : L.toArray.getD i d = b := by
  simp [Array.getD_eq_getD_getElem?, h]
theorem list_app (L : List Bool) (m i : Nat) (h : i < L.length) : (L ++ List.replicate m false)[i]? = L[i]? := List.getElem?_append_left h
theorem qOp_front {P : Program} {ops F : Array Oper} {n : Nat} {C : World → Prop} (hpre : ∀ i, i < n → ops[i]? = F[i]?) (hgd : ∀ i o g b, i < n → ops[i]? = some o → o.guard = some (g, b) → g < n) {i : Nat} (hi : i < n) {K : Act → Prop} {a : Act}
    (h : qOp P F C i K a) : qOp P ops C i K a := by
  unfold qOp at *
  rw [hpre i hi]
  cases ho : F[i]? with
  | none => simpa [ho] using h
  | some o =>
    simp only [ho] at h ⊢
    have hw : Region.wanted o (yielded ops a.tmps) = Region.wanted o (yielded F a.tmps) := by
      unfold Region.wanted
      cases hg : o.guard with
      | none => rfl
      | some gb =>
        obtain ⟨g, b⟩ := gb
        have hgn := hgd i o g b hi (by rw [hpre i hi]; exact ho) hg
        have : yielded ops a.tmps g = yielded F a.tmps g := by unfold yielded; rw [hpre g hgn]
        simp only [this]
    rw [hw]
    exact h
theorem tail_bridge {P : Program} {ops F : Array Oper} {C : World → Prop} {R : Act → Prop} {Q : Exit → Act → World → Prop} {n m : Nat} (hpre : ∀ i, i < n → ops[i]? = F[i]?) (hFn : F.size = n)
    (hb : ∀ i o, i < n → ops[i]? = some o → ∀ e ∈ o.after, Region.binds .any e = true → e.on < i) (hgd : ∀ i o g b, i < n → ops[i]? = some o → o.guard = some (g, b) → g < n)
    (ht : ∀ j oj, n ≤ j → ops[j]? = some oj → ∀ i, i < n → (∃ e ∈ oj.after, Region.binds .any e = true ∧ e.on = i) ∨ ∃ k ok, i < k ∧ k < n ∧ ops[k]? = some ok ∧ ∃ e ∈ ok.after, Region.binds .any e = true ∧ e.on = i)
    (hR : ∀ a w, C w → R a → wpAny P .any ops Q m (List.replicate n true ++ List.replicate m false).toArray a w) :
    ∀ (fuel : Nat) (L : List Bool), L.length = n → L.count false = fuel → (∀ (i : Nat) (o : Oper), L[i]? = some true → ops[i]? = some o → ∀ e ∈ o.after, Region.binds .any e = true → L[e.on]? = some true) → ∀ a w, C w → wpAnyQ P .any F C R fuel L.toArray a → wpAny P .any ops Q (fuel + m) (L ++ List.replicate m false).toArray a w := by
  intro fuel
  induction fuel with
  | zero =>
    intro L hL hc hcl a w hw h
    have hLr : L = List.replicate n true := by
      rw [← hL]
      refine List.eq_replicate_of_mem fun b hbm => ?_
      cases b with
      | true => rfl
      | false => exact absurd hbm (List.count_eq_zero.1 hc)
    subst hLr
    rw [Nat.zero_add]
    exact hR a w hw h.2
  | succ f ih =>
    intro L hL hc hcl a w hw h
    rw [show f + 1 + m = (f + m) + 1 by omega]
    have hex : ∃ i : Nat, L[i]? = some false := by
      have : false ∈ L := List.count_pos_iff.1 (by omega)
      obtain ⟨i, hi, e⟩ := List.getElem_of_mem this
      exact ⟨i, by rw [List.getElem?_eq_getElem hi, e]⟩
    have hlt : ∀ (i : Nat) (b : Bool), L[i]? = some b → i < n := fun i b hi => by
      have := (List.getElem?_eq_some_iff.1 hi).1
      omega
    have hsome : ∀ i, i < n → ∃ o, F[i]? = some o := fun i hi => ⟨F[i]'(by omega), Array.getElem?_eq_getElem (by omega)⟩
    have hex0 := hex
    obtain ⟨i0, hi0, hmin⟩ : ∃ i0 : Nat, L[i0]? = some false ∧ ∀ j : Nat, j < i0 → L[j]? ≠ some false := by
      obtain ⟨i, hi⟩ := hex
      induction i using Nat.strongRecOn with
      | _ i ihh =>
        by_cases hj : ∃ j : Nat, j < i ∧ L[j]? = some false
        · obtain ⟨j, hj1, hj2⟩ := hj
          exact ihh j hj1 hj2
        · exact ⟨i, hi, fun j h1 h2 => hj ⟨j, h1, h2⟩⟩
    refine ⟨fun h0 => ?_, fun i hi => ?_⟩
    · exfalso
      have hin := hlt i0 _ hi0
      obtain ⟨o, ho⟩ := hsome i0 hin
      have hoo : ops[i0]? = some o := by rw [hpre i0 hin]; exact ho
      have : i0 ∈ Region.ready .any ops (L ++ List.replicate m false).toArray := by
        refine mem_ready.2 ⟨getD_list _ _ _ _ (by rw [list_app L m i0 (by omega)]; exact hi0), o, hoo, fun e he hbe => ?_⟩
        have hlt2 := hb i0 o hin hoo e he hbe
        have hn2 := hmin e.on hlt2
        have hel : e.on < L.length := by omega
        refine getD_list _ _ _ _ ?_
        rw [list_app L m e.on hel, List.getElem?_eq_getElem hel]
        rw [List.getElem?_eq_getElem hel] at hn2
        cases hv : L[e.on] with
        | true => rfl
        | false => rw [hv] at hn2; exact absurd rfl hn2
      rw [h0] at this
      cases this
    · obtain ⟨h1, o, ho, hall⟩ := mem_ready.1 hi
      have hin : i < n := by
        rcases Nat.lt_or_ge i n with h' | h'
        · exact h'
        · exfalso
          have hallL : ∀ (d i1 : Nat), n - i1 = d → i1 < n → L[i1]? = some true := by
            intro d
            induction d using Nat.strongRecOn with
            | _ d ihd =>
              intro i1 hd hi1
              rcases ht i o h' ho i1 hi1 with ⟨e, he, hbe, hon⟩ | ⟨k, ok, h4, h5, hok, e, he, hbe, hon⟩
              · have h3 := hall e he hbe
                have hel : e.on < L.length := by omega
                rw [getD_list _ _ _ _ (by rw [list_app L m e.on hel, List.getElem?_eq_getElem hel])] at h3
                rw [← hon, List.getElem?_eq_getElem hel, h3]
              · have h6 := ihd (n - k) (by omega) k rfl h5
                rw [← hon]
                exact hcl k ok h6 hok e he hbe
          have h7 := hallL _ i0 rfl (hlt i0 _ hi0)
          rw [hi0] at h7
          cases h7
      have hil : i < L.length := by omega
      have hLi : L[i]? = some false := by
        rw [List.getElem?_eq_getElem hil]
        rw [getD_list _ _ _ _ (by rw [list_app L m i hil, List.getElem?_eq_getElem hil])] at h1
        rw [h1]
      have hrF : i ∈ Region.ready .any F L.toArray := by
        refine mem_ready.2 ⟨getD_list _ _ _ _ hLi, o, by rw [← hpre i hin]; exact ho, fun e he hbe => ?_⟩
        have hlt2 := hb i o hin ho e he hbe
        have hel : e.on < L.length := by omega
        have h3 := hall e he hbe
        rw [getD_list _ _ _ _ (by rw [list_app L m e.on hel, List.getElem?_eq_getElem hel])] at h3
        refine getD_list _ _ _ _ ?_
        rw [List.getElem?_eq_getElem hel, h3]
      have hq := qOp_front hpre hgd hin (h.2 i hrF)
      refine wpOp_of_qOp hw (fun a' w' hw' hk => ?_) hq
      have e1 : (L ++ List.replicate m false).toArray.setIfInBounds i true = (L.set i true ++ List.replicate m false).toArray := by
        rw [List.setIfInBounds_toArray, List.set_append_left _ _ hil]
      have e2 : L.toArray.setIfInBounds i true = (L.set i true).toArray := List.setIfInBounds_toArray ..
      rw [e2] at hk
      rw [e1]
      refine ih (L.set i true) (by rw [List.length_set]; exact hL) ?_ ?_ a' w' hw' hk
      · have hg : L[i] = false := by rw [List.getElem?_eq_getElem hil] at hLi; exact Option.some.inj hLi
        rw [List.count_set hil, hg, hc]
        simp
      · intro i1 o1 h4 h5 e he hbe
        have hlist : ∀ k : Nat, L[k]? = some true → (L.set i true)[k]? = some true := fun k hk => by
          by_cases hik : i = k
          · subst hik
            rw [List.getElem?_set_self hil]
          · rw [List.getElem?_set_ne hik]
            exact hk
        by_cases hii : i = i1
        · subst hii
          rw [ho] at h5
          obtain rfl := Option.some.inj h5
          have h3 := hall e he hbe
          have hlt2 := hb i o hin ho e he hbe
          have hel : e.on < L.length := by omega
          rw [getD_list _ _ _ _ (by rw [list_app L m e.on hel, List.getElem?_eq_getElem hel])] at h3
          exact hlist _ (by rw [List.getElem?_eq_getElem hel, h3])
        · rw [List.getElem?_set_ne hii] at h4
          exact hlist _ (hcl i1 o1 h4 h5 e he hbe)
theorem wp_region_quiet_tail {P : Program} {id : Nat} {Q : Exit → Act → World → Prop} {C : World → Prop} {a : Act} {w : World} {l : List Oper} (n m : Nat) (hm : P.follows .mixedOrders = true) (hn : l.length = n + m) (hB : Region.lexB .any (l.take n).toArray = true) (hf : frontB l.toArray n = true) (hC : C { w with drawn := w.drawn + 1 })
    (h : wpQuiet P (l.take n).toArray C (fun a' => ∀ w', C w' → wpAny P .any l.toArray Q m (List.replicate n true ++ List.replicate m false).toArray a' w') (l.take n) a) : (Code.region id l.toArray true).wp P Q a w := by
  simp only [Region.lexB, Bool.and_eq_true] at hB
  obtain ⟨f1, f2, f3⟩ := frontB_spec hf
  have hlen : (l.take n).toArray.size = n := by simp; omega
  have hq := wpAnyQ_lex (C := C) (md := .any) hB.1 (l.take n) 0 (Array.replicate n false) a (by simp) (by rw [hlen] at hB; rw [show (l.take n).length = n by simp; omega]; exact hB.2) h
  refine wp_region_any hm ?_
  have hb := tail_bridge (P := P) (ops := l.toArray) (F := (l.take n).toArray) (C := C) (R := fun a' => ∀ w', C w' → wpAny P .any l.toArray Q m (List.replicate n true ++ List.replicate m false).toArray a' w') (Q := Q) (n := n) (m := m)
    (fun i hi => by simp [hi]) hlen f1 f2 f3 (fun a w hw h => h w hw) n (List.replicate n false) (by simp) (by simp) (fun i o h1 => by rw [List.getElem?_replicate] at h1; split at h1 <;> cases h1) a _ hC (by simpa [hn] using hq)
  simpa [hn, List.replicate_append_replicate] using hb
/-- At the class of the worlds in which blocks may have been laid. -/
theorem wp_region_below_tail {id : Nat} {Q : Exit → Act → World → Prop} {a : Act} {w : World} {l : List Oper} (n m : Nat) (hn : l.length = n + m) (hB : Region.lexB .any (l.take n).toArray = true) (hf : frontB l.toArray n = true)
    (h : WQ (l.take n).toArray (fun w' => ∃ p : Regrown, w' = grow (redrawn w p.d) p.os) (fun a' => ∀ w', Below w.heap.size w w' → wpAny Try.prog .any l.toArray Q m (List.replicate n true ++ List.replicate m false).toArray a' w') (l.take n) a) : (Code.region id l.toArray true).wp Try.prog Q a w :=
  wp_region_quiet_tail (C := fun w' => ∃ p : Regrown, w' = grow (redrawn w p.d) p.os) n m (by kernel_rfl) hn hB hf ⟨⟨w.drawn + 1, #[]⟩, by rw [grow_empty]; rfl⟩ (by
    have h2 : ∀ (l2 : List Oper) (a2 : Act), wpQuiet Try.prog (l.take n).toArray (fun w' => ∃ p : Regrown, w' = grow (redrawn w p.d) p.os) (fun a' => ∀ w', Below w.heap.size w w' → wpAny Try.prog .any l.toArray Q m (List.replicate n true ++ List.replicate m false).toArray a' w') l2 a2 →
        wpQuiet Try.prog (l.take n).toArray (fun w' => ∃ p : Regrown, w' = grow (redrawn w p.d) p.os) (fun a' => ∀ w', (∃ p : Regrown, w' = grow (redrawn w p.d) p.os) → wpAny Try.prog .any l.toArray Q m (List.replicate n true ++ List.replicate m false).toArray a' w') l2 a2 := by
      intro l2
      induction l2 with
      | nil =>
        intro a2 hq w' hw'
        obtain ⟨⟨d, os⟩, rfl⟩ := hw'
        exact hq _ (below_regrown w d os)
      | cons o l2 ih =>
        intro a2 hq
        unfold wpQuiet at hq ⊢
        split
        · rename_i hw
          rw [if_pos hw] at hq
          exact Oper.quiet_mono (fun a => ih a) hq
        · rename_i hw
          rw [if_neg hw] at hq
          exact ih _ hq
    exact h2 _ _ h.out)
section
variable {P : Program} {ops : Array Oper} {Q : Exit → Act → World → Prop} {a : Act} {w : World}
theorem one_left {L : Array Bool} (j : Nat) (h0 : Region.ready .any ops L = [j]) (h1 : Region.ready .any ops (L.setIfInBounds j true) = []) (h : wpOp P ops Q j (fun a w => Q .normal a w) a w) : wpAny P .any ops Q 1 L a w := by
  refine ⟨fun e => (by rw [h0] at e; cases e), fun i hi => ?_⟩
  rw [h0] at hi
  obtain rfl := List.mem_singleton.1 hi
  exact wpOp_mono (fun a w hq => ⟨h1, hq⟩) h
theorem two_left {L : Array Bool} (i j : Nat) (h0 : Region.ready .any ops L = [i, j]) (h1 : Region.ready .any ops (L.setIfInBounds i true) = [j]) (h2 : Region.ready .any ops (L.setIfInBounds j true) = [i])
    (h3 : Region.ready .any ops ((L.setIfInBounds i true).setIfInBounds j true) = []) (h4 : Region.ready .any ops ((L.setIfInBounds j true).setIfInBounds i true) = [])
    (hij : wpOp P ops Q i (fun a w => wpOp P ops Q j (fun a w => Q .normal a w) a w) a w) (hji : wpOp P ops Q j (fun a w => wpOp P ops Q i (fun a w => Q .normal a w) a w) a w) : wpAny P .any ops Q 2 L a w := by
  refine ⟨fun e => (by rw [h0] at e; cases e), fun k hk => ?_⟩
  rw [h0] at hk
  rcases List.mem_cons.1 hk with rfl | hk
  · exact wpOp_mono (fun a w hq => one_left j h1 h3 hq) hij
  · obtain rfl := List.mem_singleton.1 hk
    exact wpOp_mono (fun a w hq => one_left i h2 h4 hq) hji
theorem wpOp_row {K : Act → World → Prop} {j : Nat} {o : Oper} (hj : ops[j]? = some o) (hgd : o.guard = none) (hd : o.dst = none) (ty : TypeId) (x y : Operand) (ho : o.op = .store ty x y)
    (g : Nat) (cells : Array Value) (hx : a.eval x = .pointer (some ⟨g, 0, none⟩)) (hy : a.eval y = .agg cells)
    (t : TypeId) (old : Array Value) (hg : w.heap[g]? = some (.cells old t (0, 0))) (hi : (P.info? ty).map (·.size) = some cells.size)
    (hold : old.size = cells.size) (h1 : cells.all (·.oneCell') = true)
    (h : K a (w.setRow g cells)) : wpOp P ops Q j K a w := by
  unfold wpOp
  simp only [hj]
  have hw : Region.wanted o (yielded ops a.tmps) = true := by simp [Region.wanted, hgd]
  rw [if_pos hw]
  exact .inl (wp_store_row ty x y ho g cells hx hy t old hg hi hold h1 (by rw [hd]; exact h))
end
theorem wpOp_side_store {ops : Array Oper} {Q : Exit → Act → World → Prop} {a : Act} {w : World} {K : Act → World → Prop} {j : Nat} {o : Oper} (hj : ops[j]? = some o) (hgd : o.guard = none) (hd : o.dst = none) (x y : Operand) (ho : o.op = .store 51 x y)
    (g : Nat) (cs old : List Value) (hx : a.eval x = .pointer (some ⟨g, 0, none⟩)) (hy : a.eval y = .agg cs.toArray) (hg : Blk w g old 51) (hl : cs.length = 18) (hlo : old.length = 18) (h1 : cs.toArray.all (·.oneCell') = true)
    (h : K a (w.setRow g cs.toArray)) : wpOp Try.prog ops Q j K a w :=
  wpOp_row hj hgd hd 51 x y ho g cs.toArray hx hy 51 old.toArray hg (by rw [info51]; simp [hl]) (by simp [hl, hlo]) h1 h
end Go.Proofs.Ytadheikcgdhcdaa
