/-
  A region with a block that is laid at any time: its text looked at, its walk.
-/
import Derived.Test.YtadheikcgdhcdaaRu
namespace Go.Proofs.Ytadheikcgdhcdaa
open Go.RowKit Go.Sort
set_option linter.unusedVariables false

/-- Does operation j lie ahead of operation i? -/
def waits (o : Oper) (j : Nat) : Bool := o.after.any fun e => Region.binds .any e && e.on == j
theorem waits_spec {o : Oper} {j : Nat} (h : waits o j = true) : ∃ e ∈ o.after, Region.binds .any e = true ∧ e.on = j := by
  obtain ⟨e, he, hb⟩ := Array.any_eq_true'.1 h
  simp only [Bool.and_eq_true, beq_iff_eq] at hb
  exact ⟨e, he, hb.1, hb.2⟩
def floatsB (l : List Oper) (n d : Nat) : Bool :=
  l.length == n + 2 && ((List.range (n + 2)).all fun i =>
    match l[i]? with
    | none => false
    | some o =>
      (o.after.all fun e => !Region.binds .any e || decide (e.on < i)) && (decide (i = n + 1) || o.guard.isNone) &&
      (!decide (i < n) || (o.dst.isSome && (match o.op with | .select _ _ => false | _ => true) &&
        o.op.operands.all fun x => match x with
          | .tmp t => (List.range (n + 1)).all fun j => match l[j]? with | some o' => !(o'.dst == some t) || waits o j | none => true
          | _ => true)) &&
      (!decide (i = n) || (o.dst == some d && o.after.all fun e => !Region.binds .any e)) &&
      (!decide (i = n + 1) || (List.range (n + 1)).all fun j => waits o j) &&
      ((List.range (n + 2)).all fun j => match l[j]? with | some o' => decide (i = j) || o.dst.isNone || !(o.dst == o'.dst) | none => true))
theorem floats_of {l : List Oper} {n d : Nat} (h : floatsB l n d = true) : Floats l.toArray n d := by
  unfold floatsB at h
  simp only [Bool.and_eq_true, beq_iff_eq] at h
  obtain ⟨hl, h⟩ := h
  rw [List.all_eq_true] at h
  have get : ∀ (i : Nat) (o : Oper), l.toArray[i]? = some o → l[i]? = some o := fun i o ho => by simpa using ho
  have hlt : ∀ (i : Nat) (o : Oper), l[i]? = some o → i < n + 2 := fun i o ho => by
    have := (List.getElem?_eq_some_iff.1 ho).1
    omega
  have one : ∀ (i : Nat) (o : Oper), l.toArray[i]? = some o → _ := fun i o ho => by
    have h2 := h i (List.mem_range.2 (hlt i o (get i o ho)))
    rw [get i o ho] at h2
    simp only [Bool.and_eq_true] at h2
    exact h2
  refine ⟨by simpa using hl, fun i o ho e he hb => ?_, fun i o hi ho => ?_, fun i o hi ho => ?_, fun i j o o' t ho ho' h1 h2 => ?_, fun i o t hi ho ht j o' hj ho' hd => ?_, fun i o hi ho cs b hs => ?_, ?_, fun o ho i hi => ?_⟩
  · obtain ⟨⟨⟨⟨⟨q1, q2⟩, q3⟩, q4⟩, q5⟩, q6⟩ := one i o ho
    have := Array.all_eq_true'.1 q1 e he
    simpa [hb] using this
  · obtain ⟨⟨⟨⟨⟨q1, q2⟩, q3⟩, q4⟩, q5⟩, q6⟩ := one i o ho
    have : i ≠ n + 1 := by omega
    simpa [this] using q2
  · obtain ⟨⟨⟨⟨⟨q1, q2⟩, q3⟩, q4⟩, q5⟩, q6⟩ := one i o ho
    rw [decide_eq_true hi] at q3
    simp only [Bool.not_true, Bool.false_or, Bool.and_eq_true] at q3
    exact Option.isSome_iff_exists.1 q3.1.1
  · obtain ⟨⟨⟨⟨⟨q1, q2⟩, q3⟩, q4⟩, q5⟩, q6⟩ := one i o ho
    rw [List.all_eq_true] at q6
    have := q6 j (List.mem_range.2 (hlt j o' (get j o' ho')))
    rw [get j o' ho'] at this
    simpa [h1, h2] using this
  · obtain ⟨⟨⟨⟨⟨q1, q2⟩, q3⟩, q4⟩, q5⟩, q6⟩ := one i o ho
    rw [decide_eq_true hi] at q3
    simp only [Bool.not_true, Bool.false_or, Bool.and_eq_true] at q3
    have h3 := Array.all_eq_true'.1 q3.2 _ ht
    simp only at h3
    rw [List.all_eq_true] at h3
    have h4 := h3 j (List.mem_range.2 hj)
    rw [get j o' ho'] at h4
    simp only [hd] at h4
    exact waits_spec (by simpa using h4)
  · obtain ⟨⟨⟨⟨⟨q1, q2⟩, q3⟩, q4⟩, q5⟩, q6⟩ := one i o ho
    rw [decide_eq_true hi] at q3
    simp only [Bool.not_true, Bool.false_or, Bool.and_eq_true] at q3
    have := q3.1.2
    rw [hs] at this
    cases this
  · obtain ⟨o, ho⟩ : ∃ o, l[n]? = some o := ⟨l[n]'(by omega), List.getElem?_eq_getElem (by omega)⟩
    have ho2 : l.toArray[n]? = some o := by simpa using ho
    obtain ⟨⟨⟨⟨⟨q1, q2⟩, q3⟩, q4⟩, q5⟩, q6⟩ := one n o ho2
    simp only [decide_true, Bool.not_true, Bool.false_or, Bool.and_eq_true, beq_iff_eq] at q4
    exact ⟨o, ho2, q4.1, fun e he => by
      have := Array.all_eq_true'.1 q4.2 e he
      simpa using this⟩
  · obtain ⟨⟨⟨⟨⟨q1, q2⟩, q3⟩, q4⟩, q5⟩, q6⟩ := one (n + 1) o ho
    simp only [decide_true, Bool.not_true, Bool.false_or] at q5
    rw [List.all_eq_true] at q5
    exact waits_spec (q5 i (List.mem_range.2 hi))
/-- What each of the front's operations does, held against a frame in which all have been carried out. -/
def FrontOk (P : Program) (X : World) (aF : Act) : List Oper → List Value → Prop
  | [], [] => True
  | o :: os, v :: vs => ((∀ t, o.dst = some t → aF.tmps[t]? = some v) ∧ ∀ w, Below X.heap.size X w → o.quietAt P aF (fun w' => Below w.heap.size w w') w v) ∧ FrontOk P X aF os vs
  | _, _ => False
theorem FrontOk.get {P : Program} {X : World} {aF : Act} : ∀ {l : List Oper} {vs : List Value}, FrontOk P X aF l vs → ∀ (i : Nat) (o : Oper), l[i]? = some o → (∀ t, o.dst = some t → aF.tmps[t]? = some (vs.getD i undef)) ∧ ∀ w, Below X.heap.size X w → o.quietAt P aF (fun w' => Below w.heap.size w w') w (vs.getD i undef)
  | [], _, _, i, o, ho => by simp at ho
  | o :: os, [], h, _, _, _ => h.elim
  | o :: os, v :: vs, h, 0, o', ho => by
    obtain rfl : o = o' := by simpa using ho
    exact h.1
  | o :: os, v :: vs, h, i + 1, o', ho => by
    have := FrontOk.get h.2 i o' (by simpa using ho)
    simpa using this
theorem Agree.putR {free : Nat → Prop} {a b : Act} (h : Agree free a b) (d : Nat) (v : Value) (hf : free d) : Agree free a (b.put (some d) v) := by
  refine ⟨h.1, by simpa [Act.put] using h.2.1, fun t ht => ?_⟩
  show a.tmps[t]? = (b.tmps.setIfInBounds d v)[t]?
  have hne : d ≠ t := fun e => ht (by rw [← e]; exact hf)
  rw [Array.getElem?_setIfInBounds_ne hne]
  exact h.2.2 t ht
theorem Agree.refl (free : Nat → Prop) (a : Act) : Agree free a a := ⟨rfl, rfl, fun _ _ => rfl⟩
theorem wp_region_float {id : Nat} {Q : Exit → Act → World → Prop} {a : Act} {w : World} {l : List Oper} (n d : Nat) (hf : floatsB l n d = true) (obj : Obj) (aF : Act) (vs : List Value)
    (hag : Agree (freeOf l.toArray (List.replicate (n + 1) false)) a aF) (hd : d < aF.tmps.size) (hfr : FrontOk Try.prog w aF (l.take n) vs)
    (hal : ∀ (o : Oper) (a : Act) (w : World), l[n]? = some o → (execOp a.eval o).run Try.prog w = .ok (.value (.pointer (some ⟨w.heap.size, 0, none⟩))) (w.alloc obj))
    (hfin : ∀ (w' : World) (p : Nat), w.heap.size ≤ p → Below w.heap.size w w' → w'.heap[p]? = some obj → wpOp Try.prog l.toArray Q (n + 1) (fun a w => Q .normal a w) (aF.put (some d) (.pointer (some ⟨p, 0, none⟩))) w') : (Code.region id l.toArray true).wp Try.prog Q a w := by
  have F := floats_of hf
  have hl : l.length = n + 2 := by simpa using F.size
  refine wp_region_any (by kernel_rfl) ?_
  have := float_any F (P := Try.prog) (Q := Q) (X := w) (obj := obj) (aF := aF) (fun i => vs.getD i undef) (fun i o hi ho => hfr.get i o (by rw [List.getElem?_take_of_lt hi]; simpa using ho)) hd (fun o a w ho => hal o a w (by simpa using ho)) hfin (n + 1) (List.replicate n false) none a { w with drawn := w.drawn + 1 }
    (by simp) (by simp) ⟨rfl, rfl, rfl, Nat.le_refl _, fun _ _ => rfl⟩ (fun p hp => by cases hp) (by
      have e : List.replicate n false ++ [(none : Option Nat).isSome] = List.replicate (n + 1) false := by rw [List.replicate_succ']; rfl
      rw [e]
      exact hag)
  have e2 : (List.replicate n false ++ [(none : Option Nat).isSome, false] : List Bool) = List.replicate (n + 2) false := by
    rw [List.replicate_succ', List.replicate_succ', List.append_assoc]; rfl
  rw [e2] at this
  simpa [hl] using this
theorem quietAt_value {P : Program} {C : World → Prop} {o : Oper} {a : Act} {w : World} {v : Value} (h : (execOp a.eval o).run P w = .ok (.value v) w) : o.quietAt P a C w v := by
  unfold Oper.quietAt
  rw [h]
  exact ⟨rfl, rfl⟩
theorem quietAt_call {P : Program} {C : World → Prop} {o : Oper} {a : Act} {w : World} {v : Value} {f : FuncId} {args : Array Value} (h : (execOp a.eval o).run P w = .ok (.enter f args) w) (hc : Calls P f args w fun e w' => e = .returned v ∧ C w') : o.quietAt P a C w v := by
  unfold Oper.quietAt
  rw [h]
  exact ⟨rfl, hc⟩
theorem run_side_load {o : Oper} {a : Act} {w : World} (x : Operand) (ho : o.op = .load 51 x) (g : Nat) (hx : a.eval x = .pointer (some ⟨g, 0, none⟩)) (cs : List Value) (hg : Blk w g cs 51) (hl : cs.length = 18) : (execOp a.eval o).run Try.prog w = .ok (.value (.agg cs.toArray)) w := by
  unfold execOp
  simp only [ho, hx, Instr.loadAt, Instr.sureAddr, Sem.run_bind, Sem.run_pure, Result.andThen_ok, run_loadVar_row (P := Try.prog) w g 51 51 cs.toArray (0, 0) _ hg Try.underlying51 rfl (by rw [info51]; simp [hl])]
end Go.Proofs.Ytadheikcgdhcdaa
