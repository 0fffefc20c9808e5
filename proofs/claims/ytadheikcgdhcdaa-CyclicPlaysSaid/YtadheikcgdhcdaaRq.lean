/-
  A whole side loaded in a region that draws its order.
-/
import Derived.Test.YtadheikcgdhcdaaRf
import Derived.Lib.QuietBelow
namespace Go.Proofs.Ytadheikcgdhcdaa
open Go.RowKit Go.Sort
set_option linter.unusedVariables false

theorem wpQuiet_side_load {ops : Array Oper} {C : World → Prop} {Q : Act → Prop} {rest : List Oper} {o : Oper} {a : Act} (x : Operand) (ho : o.op = .load 51 x) (hw : Region.wanted o (yielded ops a.tmps) = true)
    (g : Nat) (hx : a.eval x = .pointer (some ⟨g, 0, none⟩)) (cs : List Value) (hg : ∀ w, C w → Blk w g cs 51) (hl : cs.length = 18)
    (h : wpQuiet Try.prog ops C Q rest (a.put o.dst (.agg cs.toArray))) : wpQuiet Try.prog ops C Q (o :: rest) a := by
  unfold wpQuiet
  rw [if_pos hw]
  refine ⟨.agg cs.toArray, fun w hC => ?_, h⟩
  have hrun : (execOp a.eval o).run Try.prog w = .ok (.value (.agg cs.toArray)) w := by
    unfold execOp
    simp only [ho, hx, Instr.loadAt, Instr.sureAddr, Sem.run_bind, Sem.run_pure, Result.andThen_ok, run_loadVar_row (P := Try.prog) w g 51 51 cs.toArray (0, 0) _ (hg w hC) Try.underlying51 rfl (by rw [info51]; simp [hl])]
  unfold Oper.quietAt
  rw [hrun]
  exact ⟨rfl, rfl⟩
theorem blk_regrown {w : World} {g : Nat} {cs : List Value} {T : TypeId} (h : Blk w g cs T) : ∀ w', (∃ p : Regrown, w' = grow (redrawn w p.d) p.os) → Blk w' g cs T := by
  rintro _ ⟨⟨d, os⟩, rfl⟩
  exact h.below (below_regrown w d os)
/-- The lexical walk, shut: so that nothing looks into what is left of it. -/
structure WQ (ops : Array Oper) (C : World → Prop) (Q : Act → Prop) (rest : List Oper) (a : Act) : Prop where
  out : wpQuiet Try.prog ops C Q rest a
theorem WQ.step {ops : Array Oper} {C : World → Prop} {Q : Act → Prop} {rest : List Oper} {o : Oper} {a : Act} (h : ∀ K : Act → Prop, (∀ a, WQ ops C Q rest a → K a) → if Region.wanted o (yielded ops a.tmps) then o.quiet Try.prog a C K else K (a.put o.dst undef)) : WQ ops C Q (o :: rest) a :=
  ⟨wpQuiet_step fun K hK => h K fun a ha => hK a ha.out⟩
theorem WQ.load {ops : Array Oper} {C : World → Prop} {Q : Act → Prop} {rest : List Oper} {o : Oper} {a : Act} (x : Operand) (ho : o.op = .load 51 x) (hw : Region.wanted o (yielded ops a.tmps) = true)
    (g : Nat) (hx : a.eval x = .pointer (some ⟨g, 0, none⟩)) (cs : List Value) (hg : ∀ w, C w → Blk w g cs 51) (hl : cs.length = 18)
    (h : WQ ops C Q rest (a.put o.dst (.agg cs.toArray))) : WQ ops C Q (o :: rest) a :=
  ⟨wpQuiet_side_load x ho hw g hx cs hg hl h.out⟩
theorem WQ.nil {ops : Array Oper} {C : World → Prop} {Q : Act → Prop} {a : Act} (h : Q a) : WQ ops C Q [] a := ⟨wpQuiet_nil h⟩
end Go.Proofs.Ytadheikcgdhcdaa
