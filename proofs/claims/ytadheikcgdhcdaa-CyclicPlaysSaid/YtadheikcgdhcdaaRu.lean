/-
  A region that draws its order: what reads and calls, a block that is laid at any time, and a store at its end.
-/
import Derived.Test.YtadheikcgdhcdaaRt
namespace Go.Proofs.Ytadheikcgdhcdaa
open Go.RowKit Go.Sort
set_option linter.unusedVariables false

/-- Two frames hold the same but for some slots. -/
def Agree (free : Nat → Prop) (a b : Act) : Prop := a.defers = b.defers ∧ a.tmps.size = b.tmps.size ∧ ∀ t : Nat, ¬ free t → a.tmps[t]? = b.tmps[t]?
theorem Agree.eval {free : Nat → Prop} {a b : Act} (h : Agree free a b) (x : Operand) (hx : ∀ t, x = .tmp t → ¬ free t) : a.eval x = b.eval x := by
  cases x with
  | tmp t => simp [Act.eval, h.2.2 t (hx t rfl)]
  | _ => rfl
theorem Agree.put {free free' : Nat → Prop} {a b : Act} (h : Agree free a b) (d : Nat) (v : Value) (hv : b.tmps[d]? = some v) (hf : ∀ t, t ≠ d → ¬ free' t → ¬ free t) : Agree free' (a.put (some d) v) b := by
  refine ⟨h.1, by simpa [Act.put] using h.2.1, fun t ht => ?_⟩
  show (a.tmps.setIfInBounds d v)[t]? = b.tmps[t]?
  by_cases hd : t = d
  · subst hd
    rw [Array.getElem?_setIfInBounds_self, hv]
    have := (Array.getElem?_eq_some_iff.1 hv).1
    rw [if_pos (by have := h.2.1; omega)]
  · rw [Array.getElem?_setIfInBounds_ne (fun e => hd e.symm)]
    exact h.2.2 t (hf t hd ht)
theorem Agree.all {free : Nat → Prop} {a b : Act} (h : Agree free a b) (hn : ∀ t, ¬ free t) : a = b := by
  obtain ⟨ta, da⟩ := a
  obtain ⟨tb, db⟩ := b
  have e1 : da = db := h.1
  have e2 : ta = tb := Array.ext_getElem? fun t => h.2.2 t (hn t)
  rw [e1, e2]
/-- The slots that are still to be written. -/
def freeOf (ops : Array Oper) (L : List Bool) : Nat → Prop := fun t => ∃ (j : Nat) (o : Oper), L[j]? = some false ∧ ops[j]? = some o ∧ o.dst = some t
/-- What the region's text must be: n operations, a block that is laid, a store. -/
structure Floats (ops : Array Oper) (n d : Nat) : Prop where
  size : ops.size = n + 2
  back : ∀ (i : Nat) (o : Oper), ops[i]? = some o → ∀ e ∈ o.after, Region.binds .any e = true → e.on < i
  gd : ∀ (i : Nat) (o : Oper), i < n + 1 → ops[i]? = some o → o.guard = none
  dst : ∀ (i : Nat) (o : Oper), i < n → ops[i]? = some o → ∃ t, o.dst = some t
  uniq : ∀ (i j : Nat) (o o' : Oper) (t : Nat), ops[i]? = some o → ops[j]? = some o' → o.dst = some t → o'.dst = some t → i = j
  deps : ∀ (i : Nat) (o : Oper) (t : Nat), i < n → ops[i]? = some o → .tmp t ∈ o.op.operands → ∀ (j : Nat) (o' : Oper), j < n + 1 → ops[j]? = some o' → o'.dst = some t → ∃ e ∈ o.after, Region.binds .any e = true ∧ e.on = j
  sel : ∀ (i : Nat) (o : Oper), i < n → ops[i]? = some o → ∀ cs b, o.op ≠ .select cs b
  fl : ∃ o, ops[n]? = some o ∧ o.dst = some d ∧ ∀ e ∈ o.after, Region.binds .any e = false
  last : ∀ o : Oper, ops[n + 1]? = some o → ∀ i, i < n + 1 → ∃ e ∈ o.after, Region.binds .any e = true ∧ e.on = i
theorem run_front {P : Program} {ops : Array Oper} {C : World → Prop} {i : Nat} {o : Oper} (ho : ops[i]? = some o) (hg : o.guard = none) {a aF : Act} {w : World} {v : Value} {K : Act → World → Prop} {Q : Exit → Act → World → Prop}
    (he : execOp a.eval o = execOp aF.eval o) (hC : C w) (hq : ∀ w', C w' → o.quietAt P aF C w' v) (hK : ∀ w', C w' → K (a.put o.dst v) w') : wpOp P ops Q i K a w := by
  unfold wpOp
  simp only [ho]
  rw [if_pos (by simp [Region.wanted, hg])]
  refine .inl (Oper.wp_of_quiet (C := C) (K := fun a' => a' = a.put o.dst v) hC (fun a' w' hw' e => by rw [e]; exact hK w' hw') ⟨v, fun w' hw' => ?_, rfl⟩)
  have := hq w' hw'
  unfold Oper.quietAt at this ⊢
  rw [he]
  exact this
theorem quietAt_mono {P : Program} {C C' : World → Prop} (h : ∀ w, C w → C' w) {o : Oper} {a : Act} {w : World} {v : Value} (hq : o.quietAt P a C w v) : o.quietAt P a C' w v := by
  unfold Oper.quietAt at *
  generalize (execOp a.eval o).run P w = r at *
  cases r with
  | ok n w' =>
    cases n <;> simp only [Oper.quietUpon] at hq ⊢ <;> first | exact hq | exact ⟨hq.1, hq.2.mono fun e w'' ⟨he, hw⟩ => ⟨he, h _ hw⟩⟩
  | halt x w' => simp only [Oper.quietUpon] at hq
def aimOf (aF : Act) (d : Nat) : Option Nat → Act
  | some p => aF.put (some d) (.pointer (some ⟨p, 0, none⟩))
  | none => aF
theorem float_any {P : Program} {ops : Array Oper} {n d : Nat} (F : Floats ops n d) {Q : Exit → Act → World → Prop} {X : World} {obj : Obj} {aF : Act} (vals : Nat → Value)
    (hv : ∀ (i : Nat) (o : Oper), i < n → ops[i]? = some o → (∀ t, o.dst = some t → aF.tmps[t]? = some (vals i)) ∧ ∀ w, Below X.heap.size X w → o.quietAt P aF (fun w' => Below w.heap.size w w') w (vals i))
    (hd : d < aF.tmps.size)
    (hal : ∀ (o : Oper) (a : Act) (w : World), ops[n]? = some o → (execOp a.eval o).run P w = .ok (.value (.pointer (some ⟨w.heap.size, 0, none⟩))) (w.alloc obj))
    (hfin : ∀ (w : World) (p : Nat), X.heap.size ≤ p → Below X.heap.size X w → w.heap[p]? = some obj → wpOp P ops Q (n + 1) (fun a w => Q .normal a w) (aF.put (some d) (.pointer (some ⟨p, 0, none⟩))) w) :
    ∀ (fuel : Nat) (L : List Bool) (pa : Option Nat) (a : Act) (w : World), L.length = n → L.count false + (if pa.isSome then 0 else 1) = fuel → Below X.heap.size X w → (∀ p, pa = some p → X.heap.size ≤ p ∧ w.heap[p]? = some obj) →
      Agree (freeOf ops (L ++ [pa.isSome])) a (aimOf aF d pa) → wpAny P .any ops Q (fuel + 1) (L ++ [pa.isSome, false]).toArray a w := by
  have hops : ∀ i, i < n + 2 → ∃ o, ops[i]? = some o := fun i hi => ⟨ops[i]'(by rw [F.size]; exact hi), Array.getElem?_eq_getElem (by rw [F.size]; exact hi)⟩
  have hlt : ∀ (i : Nat) (o : Oper), ops[i]? = some o → i < n + 2 := fun i o ho => by
    have := (Array.getElem?_eq_some_iff.1 ho).1
    rw [F.size] at this
    exact this
  intro fuel
  induction fuel with
  | zero =>
    intro L pa a w hL hc hb hp hag
    cases pa with
    | none => simp at hc
    | some p =>
      have hc0 : L.count false = 0 := by simpa using hc
      have hLr : L = List.replicate n true := by
        rw [← hL]
        refine List.eq_replicate_of_mem fun b hbm => ?_
        cases b with
        | true => rfl
        | false => exact absurd hbm (List.count_eq_zero.1 hc0)
      subst hLr
      have hLx : (List.replicate n true ++ [(some p).isSome, false] : List Bool) = List.replicate (n + 1) true ++ [false] := by
        rw [List.replicate_succ', List.append_assoc]; rfl
      rw [hLx]
      have hget : ∀ i, i < n + 1 → (List.replicate (n + 1) true ++ [false])[i]? = some true := fun i hi => by
        rw [List.getElem?_append_left (by simpa using hi), List.getElem?_replicate, if_pos hi]
      have hgl : (List.replicate (n + 1) true ++ [false])[n + 1]? = some false := by
        rw [List.getElem?_append_right (by simp)]; simp
      have haq : a = aF.put (some d) (.pointer (some ⟨p, 0, none⟩)) := hag.all fun t ht => by
        obtain ⟨j, o, h1, -, -⟩ := ht
        rw [show (List.replicate n true ++ [(some p).isSome] : List Bool) = List.replicate (n + 1) true from by rw [List.replicate_succ']; rfl] at h1
        rw [List.getElem?_replicate] at h1
        split at h1 <;> cases h1
      obtain ⟨os, hos⟩ := hops (n + 1) (by omega)
      obtain ⟨hp1, hp2⟩ := hp p rfl
      have hr : n + 1 ∈ Region.ready .any ops (List.replicate (n + 1) true ++ [false]).toArray := by
        refine mem_ready.2 ⟨getD_list _ _ _ _ hgl, os, hos, fun e he hbe => ?_⟩
        have := F.back _ _ hos e he hbe
        exact getD_list _ _ _ _ (hget e.on this)
      refine ⟨fun h0 => (by rw [h0] at hr; cases hr), fun i hi => ?_⟩
      obtain ⟨h1, o, ho, -⟩ := mem_ready.1 hi
      have hin : i = n + 1 := by
        have := hlt i o ho
        rcases Nat.lt_or_ge i (n + 1) with h' | h'
        · rw [getD_list _ _ _ _ (hget i h')] at h1; cases h1
        · omega
      subst hin
      rw [haq]
      refine wpOp_mono (fun a' w' hq => ⟨?_, hq⟩) (hfin w p hp1 hb hp2)
      cases hz : Region.ready .any ops ((List.replicate (n + 1) true ++ [false]).toArray.setIfInBounds (n + 1) true) with
      | nil => rfl
      | cons k ks =>
        have hk : k ∈ Region.ready .any ops ((List.replicate (n + 1) true ++ [false]).toArray.setIfInBounds (n + 1) true) := by rw [hz]; exact List.mem_cons_self ..
        obtain ⟨k1, ok, hok, -⟩ := mem_ready.1 hk
        have hkn := hlt k ok hok
        have hall : ((List.replicate (n + 1) true ++ [false]).toArray.setIfInBounds (n + 1) true) = (List.replicate (n + 2) true).toArray := by
          rw [List.setIfInBounds_toArray, List.set_append_right _ _ (by simp), List.replicate_succ' (n := n + 1)]
          simp
        rw [hall, getD_list _ _ _ _ (by rw [List.getElem?_replicate, if_pos hkn])] at k1
        cases k1
  | succ f ih =>
    intro L pa a w hL hc hb hp hag
    obtain ⟨M, hM⟩ : ∃ M, L ++ [pa.isSome] = M := ⟨_, rfl⟩
    have hMl : M.length = n + 1 := by rw [← hM]; simp [hL]
    have hLM : L ++ [pa.isSome, false] = M ++ [false] := by rw [← hM]; simp
    have hMc : false ∈ M := by
      rw [← hM, List.mem_append]
      by_cases hz : L.count false = 0
      · right
        rw [hz] at hc
        cases pa with
        | none => simp
        | some p => simp at hc
      · left; exact List.count_pos_iff.1 (by omega)
    rw [hLM]
    rw [hM] at hag
    have hgM : ∀ i, i < n + 1 → (M ++ [false])[i]? = M[i]? := fun i hi => List.getElem?_append_left (by omega)
    have hmlt : ∀ (i : Nat) (b : Bool), M[i]? = some b → i < n + 1 := fun i b hi => by
      have := (List.getElem?_eq_some_iff.1 hi).1
      omega
    obtain ⟨i0, hi0, hmin⟩ : ∃ i0 : Nat, M[i0]? = some false ∧ ∀ j : Nat, j < i0 → M[j]? ≠ some false := by
      obtain ⟨i, hi, e⟩ := List.getElem_of_mem hMc
      have hi' : M[i]? = some false := by rw [List.getElem?_eq_getElem hi, e]
      clear e
      induction i using Nat.strongRecOn with
      | _ i ihh =>
        by_cases hj : ∃ j : Nat, j < i ∧ M[j]? = some false
        · obtain ⟨j, hj1, hj2⟩ := hj
          exact ihh j hj1 (by have := hmlt j _ hj2; omega) hj2
        · exact ⟨i, hi', fun j h1 h2 => hj ⟨j, h1, h2⟩⟩
    have hi0n := hmlt i0 _ hi0
    rw [show f + 1 + 1 = (f + 1) + 1 from rfl]
    refine ⟨fun h0 => ?_, fun i hi => ?_⟩
    · exfalso
      obtain ⟨o, ho⟩ := hops i0 (by omega)
      have : i0 ∈ Region.ready .any ops (M ++ [false]).toArray := by
        refine mem_ready.2 ⟨getD_list _ _ _ _ (by rw [hgM i0 hi0n]; exact hi0), o, ho, fun e he hbe => ?_⟩
        have hlt2 := F.back _ _ ho e he hbe
        have hn2 := hmin e.on hlt2
        have hel : e.on < M.length := by omega
        refine getD_list _ _ _ _ ?_
        rw [hgM e.on (by omega), List.getElem?_eq_getElem hel]
        rw [List.getElem?_eq_getElem hel] at hn2
        cases hvv : M[e.on] with
        | true => rfl
        | false => rw [hvv] at hn2; exact absurd rfl hn2
      rw [h0] at this
      cases this
    · obtain ⟨h1, o, ho, hall⟩ := mem_ready.1 hi
      have hin : i < n + 1 := by
        rcases Nat.lt_or_ge i (n + 1) with h' | h'
        · exact h'
        · exfalso
          have h2 := hlt i o ho
          obtain rfl : i = n + 1 := by omega
          obtain ⟨e, he, hbe, hon⟩ := F.last o ho i0 hi0n
          have := hall e he hbe
          rw [hon, getD_list _ _ _ _ (by rw [hgM i0 hi0n]; exact hi0)] at this
          cases this
      have hil : i < M.length := by omega
      have hMi : M[i]? = some false := by
        rw [List.getElem?_eq_getElem hil]
        rw [getD_list _ _ _ _ (by rw [hgM i hin, List.getElem?_eq_getElem hil])] at h1
        rw [h1]
      have hset : (M ++ [false]).toArray.setIfInBounds i true = (M.set i true ++ [false]).toArray := by
        rw [List.setIfInBounds_toArray, List.set_append_left _ _ hil]
      rcases Nat.lt_or_ge i n with hi2 | hi2
      · -- one of the front
        have hiL : i < L.length := by omega
        have hLi : L[i] = false := by
          rw [← hM, List.getElem?_append_left hiL, List.getElem?_eq_getElem hiL] at hMi
          exact Option.some.inj hMi
        obtain ⟨t0, ht0⟩ := F.dst i o hi2 ho
        obtain ⟨hvt, hq⟩ := hv i o hi2 ho
        have hMs : M.set i true = L.set i true ++ [pa.isSome] := by rw [← hM, List.set_append_left _ _ hiL]
        obtain ⟨ofl, hofl, hdfl, hafl⟩ := F.fl
        have hnd : ∀ t, .tmp t ∈ o.op.operands → t ≠ d := fun t ht e => by
          obtain ⟨ed, hed, hbd, hon⟩ := F.deps i o t hi2 ho ht n ofl (by omega) hofl (by rw [hdfl, e])
          have := F.back i o ho ed hed hbd
          omega
        have he1 : execOp a.eval o = execOp (aimOf aF d pa).eval o := execOp_congr o (F.sel i o hi2 ho) fun x hx => hag.eval x fun t hxt hfr => by
          obtain ⟨j, oj, hj1, hj2, hj3⟩ := hfr
          have hjn := hmlt j _ hj1
          obtain ⟨ed, hed, hbd, hon⟩ := F.deps i o t hi2 ho (hxt ▸ hx) j oj hjn hj2 hj3
          have := hall ed hed hbd
          rw [hon, getD_list _ _ _ _ (by rw [hgM j hjn]; exact hj1)] at this
          cases this
        have he2 : execOp (aimOf aF d pa).eval o = execOp aF.eval o := by
          cases pa with
          | none => rfl
          | some p => exact execOp_congr o (F.sel i o hi2 ho) fun x hx => Act.eval_put fun d' hd' hxd => hnd d' (hxd ▸ hx) (Option.some.inj hd').symm
        refine run_front (C := fun w' => Below w.heap.size w w') ho (F.gd i o hin ho) (he1.trans he2) (Below.refl _ _) (v := vals i) (fun w' hw' => quietAt_mono (fun w'' hw'' => bthen hw' hw'') (hq w' (bthen hb hw'))) fun w' hw' => ?_
        rw [hset, hMs, List.append_assoc]
        refine ih (L.set i true) pa (a.put o.dst (vals i)) w' (by rw [List.length_set]; exact hL) ?_ (bthen hb hw') (fun p hpp => ?_) ?_
        · rw [List.count_set hiL, hLi]
          simp
          have : 0 < L.count false := List.count_pos_iff.2 (by rw [← hLi]; exact List.getElem_mem hiL)
          omega
        · obtain ⟨h3, h4⟩ := hp p hpp
          have hps : p < w.heap.size := (Array.getElem?_eq_some_iff.1 h4).1
          exact ⟨h3, (hw'.block p hps).trans h4⟩
        · rw [ht0]
          refine hag.put t0 (vals i) ?_ fun t htt hf hfr => ?_
          · cases pa with
            | none => exact hvt t0 ht0
            | some p =>
              have hne : d ≠ t0 := fun e => by
                have := F.uniq i n o ofl t0 ho hofl ht0 (by rw [hdfl, e])
                omega
              show (aF.tmps.setIfInBounds d _)[t0]? = _
              rw [Array.getElem?_setIfInBounds_ne hne]
              exact hvt t0 ht0
          · refine hf ?_
            obtain ⟨j, oj, hj1, hj2, hj3⟩ := hfr
            by_cases hji : i = j
            · subst hji
              rw [hj2] at ho
              obtain rfl := Option.some.inj ho
              rw [hj3] at ht0
              exact absurd (Option.some.inj ht0) htt
            · refine ⟨j, oj, ?_, hj2, hj3⟩
              rw [← hMs, List.getElem?_set_ne hji]
              exact hj1
      · -- the block is laid
        obtain rfl : i = n := by omega
        have hpa : pa = none := by
          cases pa with
          | none => rfl
          | some p =>
            rw [← hM, List.getElem?_append_right (by omega), hL] at hMi
            simp at hMi
        subst hpa
        obtain ⟨ofl, hofl, hdfl, hafl⟩ := F.fl
        rw [ho] at hofl
        obtain rfl := Option.some.inj hofl
        unfold wpOp
        simp only [ho]
        rw [if_pos (by simp [Region.wanted, F.gd i o hin ho])]
        left
        unfold Oper.wp
        rw [hal o a w ho]
        show wpAny P .any ops Q (f + 1) _ (a.put o.dst (.pointer (some ⟨w.heap.size, 0, none⟩))) (w.alloc obj)
        have hMs : M.set i true = L ++ [(some w.heap.size).isSome] := by
          rw [← hM, List.set_append_right _ _ (by omega), hL]
          simp
        rw [hset, hMs, List.append_assoc]
        refine ih L (some w.heap.size) _ _ hL (by simpa using hc) (hb.alloc hb.size _) (fun p hpp => ?_) ?_
        · obtain rfl := Option.some.inj hpp
          exact ⟨hb.size, by show (w.heap.push obj)[w.heap.size]? = some obj; simp⟩
        · rw [hdfl]
          refine ⟨hag.1, by simpa [Act.put, aimOf] using hag.2.1, fun t ht => ?_⟩
          show (a.tmps.setIfInBounds d _)[t]? = (aF.tmps.setIfInBounds d _)[t]?
          have hsz : a.tmps.size = aF.tmps.size := hag.2.1
          by_cases htd : d = t
          · subst htd
            rw [Array.getElem?_setIfInBounds_self, Array.getElem?_setIfInBounds_self, if_pos hd, if_pos (by omega)]
          · rw [Array.getElem?_setIfInBounds_ne htd, Array.getElem?_setIfInBounds_ne htd]
            refine hag.2.2 t fun hfr => ht ?_
            obtain ⟨j, oj, hj1, hj2, hj3⟩ := hfr
            refine ⟨j, oj, ?_, hj2, hj3⟩
            by_cases hji : i = j
            · subst hji
              rw [hj2] at ho
              obtain rfl := Option.some.inj ho
              rw [hj3] at hdfl
              exact absurd (Option.some.inj hdfl).symm htd
            · rw [← hMs, List.getElem?_set_ne hji]
              exact hj1
end Go.Proofs.Ytadheikcgdhcdaa
