/-
  A row of units (structs of eight cells) at whatever offset of its block: one more, all but the first.
-/
import Derived.Test.YtadheikcgdhcdaaSS
import Derived.Test.YtadheikcgdhcdaaHxD
namespace Go.Proofs.Ytadheikcgdhcdaa
open Go.RowKit
set_option linter.unusedVariables false
set_option linter.unusedSimpArgs false

/-- v is a slice of n units, whose cells are xs: nil, or from some offset on, in a block that lies behind base. -/
def SU (w : World) (base : Nat) (v : Value) (n : Nat) (xs : List Value) : Prop :=
  xs.length = n * 8 ∧ ((v = .slice none 0 0 ∧ n = 0) ∨ ∃ g o cap cs, v = .slice (some ⟨g, o, none⟩) n cap ∧ base ≤ g ∧ Blk w g cs 69 ∧ n ≤ cap ∧ cap ≤ maxLen ∧ o + cap * 8 ≤ cs.length ∧ ∀ i, i < n * 8 → cs[o + i]? = xs[i]?)

theorem SU.nil (w : World) (base : Nat) : SU w base (.slice none 0 0) 0 [] := ⟨rfl, .inl ⟨rfl, rfl⟩⟩
theorem SU.fr {S : Nat → Prop} {w w' : World} {base n : Nat} {v : Value} {xs : List Value} (h : SU w base v n xs) (hF : Fr S w w') (hS : ∀ g, v.ownBlock = some g → ¬ S g) : SU w' base v n xs := by
  refine ⟨h.1, ?_⟩
  rcases h.2 with h | ⟨g, o, cap, cs, rfl, hb, hB, h1, h2, h3, h4⟩
  · exact .inl h
  · exact .inr ⟨g, o, cap, cs, rfl, hb, hB.fr hF (hS g rfl), h1, h2, h3, h4⟩
theorem SU.below {w w' : World} {base n : Nat} {v : Value} {xs : List Value} (h : SU w base v n xs) (hb : Below w.heap.size w w') : SU w' base v n xs := h.fr (S := fun _ => False) (.of_below hb) (fun _ _ h => h)
/-- Whatever keeps all blocks of units keeps it. -/
theorem SU.keep {w w' : World} {base n : Nat} {v : Value} {xs : List Value} (h : SU w base v n xs) (hk : ∀ g cs, Blk w g cs 69 → Blk w' g cs 69) : SU w' base v n xs := by
  refine ⟨h.1, ?_⟩
  rcases h.2 with h | ⟨g, o, cap, cs, rfl, hb, hB, h1, h2, h3, h4⟩
  · exact .inl h
  · exact .inr ⟨g, o, cap, cs, rfl, hb, hk _ _ hB, h1, h2, h3, h4⟩
theorem SU.own {w : World} {base n g : Nat} {v : Value} {xs : List Value} (h : SU w base v n xs) (hv : v.ownBlock = some g) : base ≤ g ∧ g < w.heap.size ∧ ∃ cs, Blk w g cs 69 := by
  rcases h.2 with ⟨h, _⟩ | ⟨g', o, cap, cs, rfl, hb, hB, h1, h2, h3, h4⟩
  · rw [h] at hv; cases hv
  · have : g' = g := by simpa [Value.ownBlock] using hv
    subst this
    exact ⟨hb, hB.lt, cs, hB⟩
theorem SU.of_own {w : World} {base n : Nat} {v : Value} {xs : List Value} (h : w.ownsRow base 69 8 v n xs) : SU w base v n xs := by
  refine ⟨h.1, ?_⟩
  rcases h.2 with ⟨h1, h2⟩ | ⟨g, cap, cur, rfl, hb, hh, h1, h2, h3, h4⟩
  · exact .inl ⟨h1, h2⟩
  · refine .inr ⟨g, 0, cap, cur.toList, rfl, hb, by unfold Blk; simpa using hh, h1, h2, by simp; omega, fun i hi => ?_⟩
    rw [Nat.zero_add]
    have h5 : (cur.toList.take (n * 8))[i]? = xs[i]? := by rw [h4]
    rw [List.getElem?_take, if_pos hi] at h5
    exact h5
theorem SU.base {w : World} {b b' n : Nat} {v : Value} {xs : List Value} (h : SU w b v n xs) (hb : b' ≤ b) : SU w b' v n xs := by
  refine ⟨h.1, ?_⟩
  rcases h.2 with h | ⟨g, o, cap, cs, rfl, h0, h1⟩
  · exact .inl h
  · exact .inr ⟨g, o, cap, cs, rfl, by omega, h1⟩
/-- The first one's cells; and all but the first. -/
theorem SU.head {w : World} {base n : Nat} {v : Value} {x xs : List Value} (h : SU w base v (n + 1) (x ++ xs)) (hx : x.length = 8) :
    ∃ g o cap, v = .slice (some ⟨g, o, none⟩) (n + 1) cap ∧ n + 1 ≤ cap ∧ cap ≤ maxLen ∧ (∀ i u, x[i]? = some u → w.cell? ⟨g, o + i, none⟩ = some u) ∧ SU w base (.slice (some ⟨g, if 1 = cap then o else o + 8, none⟩) n (cap - 1)) n xs := by
  have hl := h.1
  rw [List.length_append, hx] at hl
  rcases h.2 with ⟨_, h⟩ | ⟨g, o, cap, cs, rfl, hb, hB, h1, h2, h3, h4⟩
  · omega
  · refine ⟨g, o, cap, rfl, h1, h2, fun i u hu => hB.cell _ ?_, by omega, .inr ⟨g, _, cap - 1, cs, rfl, hb, hB, by omega, by omega, ?_, fun i hi => ?_⟩⟩
    · have := (List.getElem?_eq_some_iff.1 hu).1
      rw [h4 i (by omega), List.getElem?_append_left (by omega)]
      exact hu
    · split <;> omega
    · rw [if_neg (by omega), show o + 8 + i = o + (8 + i) from by omega, h4 (8 + i) (by omega), List.getElem?_append_right (by omega)]
      congr 1
      omega

/-- One more: what append answers. -/
theorem SU.append {w : World} {base n : Nat} {v : Value} {xs : List Value} (hv : SU w base v n xs) (hbase : base ≤ w.heap.size) (t ty : TypeId) (i : TypeInfo) (z : Value) (ht : Try.prog.underlying t = some (.slice 69)) (hi : Try.prog.info? 69 = some i) (hz : i.zero = some z) (hs1 : i.size = 8) (hby : i.bytes ≤ 1000) (hzs : z.cells.size = 8)
    (ad : Addr) (c : Nat) (x : List Value) (hx : x.length = 8) (hu : ∀ j y, x[j]? = some y → w.cell? (ad.add j) = some y) (h1 : ∀ y ∈ x, y.oneCell' = true) (hb1 : n ≤ 1000) :
    ∃ v' w', (Builtin.append_ #[t, t] ty #[v, .slice (some ad) 1 c]).run Try.prog w = .ok v' w' ∧ SU w' base v' (n + 1) (xs ++ x) ∧ w.grownBy w' v.ownBlock ∧ (∀ g, v'.ownBlock = some g → v.ownBlock = some g ∨ w.heap.size ≤ g) := by
  have hm : n + 1 ≤ maxLen := by unfold maxLen; omega
  have hbb : (n + 1) * i.bytes ≤ 140737488355328 := Nat.le_trans (Nat.mul_le_mul (show n + 1 ≤ 1001 by omega) hby) (by decide)
  rcases hv.2 with ⟨rfl, rfl⟩ | ⟨g, o, cap, cs, rfl, hb, hB, q1, q2, q3, q4⟩
  · have hx0 : xs = [] := List.eq_nil_of_length_eq_zero (by have := hv.1; omega)
    subst hx0
    obtain ⟨v', w', hrun, r1, r2, _⟩ := run_append_own (P := Try.prog) w w.heap.size t ty 69 i z 8 i.bytes ht hi hz hs1 rfl hzs (by decide) (.slice none 0 0) 0 [] (World.ownsRow_nil w _ 69 8) ad 1 c x (by omega) hu h1 (by simpa using hm) (by simpa using hbb) (Nat.le_refl _)
    refine ⟨v', w', hrun, (SU.of_own r1).base hbase, r2, fun g hg => .inr ((SU.of_own r1).own hg).1⟩
  · by_cases hroom : n + 1 ≤ cap
    · have hcs : o + n * 8 + x.length ≤ cs.length := by omega
      have hlt : ∀ j, j < x.length → ∃ y, cs[o + n * 8 + j]? = some y := fun j hj => ⟨_, List.getElem?_eq_getElem (by omega)⟩
      have hrun := run_append_room_cells (P := Try.prog) w t ty 69 i ht hi g o n cap ad 1 c x (by rw [hs1]; omega) hu h1 hroom
        (fun j hj => by
          obtain ⟨y, hy⟩ := hlt j hj
          rw [hs1, hB.cell _ hy]; rfl) (fun j hj => hB.frozen _)
      rw [hs1] at hrun
      obtain ⟨cs', b1, b2, b3, b4⟩ := Blk.cells x (o + n * 8) hB hcs
      refine ⟨_, _, hrun, ⟨by rw [List.length_append, hv.1]; omega, .inr ⟨g, o, cap, cs', rfl, hb, b1, hroom, q2, by omega, fun j hj => ?_⟩⟩, ?_, fun g' hg' => .inl (by simpa [Value.ownBlock] using hg')⟩
      · by_cases hjl : j < n * 8
        · rw [b4 _ (.inl (by omega)), q4 j hjl, List.getElem?_append_left (by rw [hv.1]; exact hjl)]
        · rw [List.getElem?_append_right (by rw [hv.1]; omega), hv.1, ← b3 (j - n * 8) (by omega), show o + n * 8 + (j - n * 8) = o + j from by omega]
      · have hF : Fr (fun k => k = g) w (w.setCells g (o + n * 8) x) := Fr.cells (S := fun k => k = g) g rfl x (o + n * 8) w
        exact ⟨hF.os, hF.tape, hF.output, hF.size, fun k hk hn => hF.block k hk (fun e => hn (by show some k = some g; rw [e]))⟩
    · have holds : ∀ j y, xs[j]? = some y → w.cell? ((⟨g, o, none⟩ : Addr).add j) = some y := fun j y hj => by
        have hjl := (List.getElem?_eq_some_iff.1 hj).1
        have hadd : (⟨g, o, none⟩ : Addr).add j = ⟨g, o + j, none⟩ := by unfold Addr.add; split <;> simp_all
        rw [hadd]
        exact hB.cell _ (by rw [q4 j (by have := hv.1; omega)]; exact hj)
      obtain ⟨v', w', hrun, r1, r2⟩ := run_append_arg_grows (P := Try.prog) w t ty 69 i z 8 i.bytes ht hi hz hs1 rfl hzs (by decide) ⟨g, o, none⟩ n cap xs hv.1 holds ad 1 c x (by omega) hu (by omega) hm hbb
      refine ⟨v', w', hrun, (SU.of_own r1).base hbase, ⟨r2.os, r2.tape, r2.output, r2.size, fun k hk _ => r2.block k hk (by simp)⟩, fun g' hg' => .inr ((SU.of_own r1).own hg').1⟩
theorem SU.grown {w w' : World} {base n : Nat} {v : Value} {xs : List Value} {row : Option Nat} (h : SU w base v n xs) (hg : w.grownBy w' row) (hr : ∀ g, v.ownBlock = some g → row ≠ some g) : SU w' base v n xs :=
  h.fr (S := fun k => row = some k) ⟨hg.os, hg.tape, hg.output, hg.size, fun k hk hn => hg.block k hk (fun e => hn e.symm)⟩ (fun g hv e => hr g hv e)
theorem Blk.grown {w w' : World} {b : Nat} {cs : List Value} {T : TypeId} {row : Option Nat} (h : Blk w b cs T) (hg : w.grownBy w' row) (hr : row ≠ some b) : Blk w' b cs T :=
  h.fr (S := fun k => row = some k) ⟨hg.os, hg.tape, hg.output, hg.size, fun k hk hn => hg.block k hk (fun e => hn e.symm)⟩ hr
/-- One more, at the operation. -/
theorem wpList_append_su {w : World} {ops : Array Oper} {rest : List Oper} {o : Oper} {a : Act} {Q : Exit → Act → World → Prop}
    (hg : o.guard = none) (s x : Operand) (t : TypeId) (hop : o.op = Op.call { callee := Callee.builtin Builtin.append, args := #[s, x], argTypes := #[t, t] })
    (i : TypeInfo) (z : Value) (ht : Try.prog.underlying t = some (.slice 69)) (hi : Try.prog.info? 69 = some i) (hz : i.zero = some z) (hs1 : i.size = 8) (hby : i.bytes ≤ 1000) (hzs : z.cells.size = 8)
    (base n : Nat) (v : Value) (xs : List Value) (hs : a.eval s = v) (hv : SU w base v n xs) (hbase : base ≤ w.heap.size)
    (ad : Addr) (c : Nat) (us : List Value) (hx : a.eval x = .slice (some ad) 1 c) (hl : us.length = 8) (hu : ∀ j y, us[j]? = some y → w.cell? (ad.add j) = some y) (h1 : ∀ y ∈ us, y.oneCell' = true) (hb1 : n ≤ 1000)
    (hK : ∀ v' w', SU w' base v' (n + 1) (xs ++ us) → w.grownBy w' v.ownBlock → (∀ g, v'.ownBlock = some g → v.ownBlock = some g ∨ w.heap.size ≤ g) → wpList Try.prog ops Q rest (a.put o.dst v') w') :
    wpList Try.prog ops Q (o :: rest) a w := by
  refine wpList_plain hg fun K hK' => ?_
  obtain ⟨v', w', hrun, r1, r2, r3⟩ := hv.append hbase t o.type i z ht hi hz hs1 hby hzs ad c us hl hu h1 hb1
  unfold Oper.wp
  simp only [execOp, hop, resolve, invoke, builtin, Sem.run_bind, Sem.run_pure, Result.andThen_ok, List.map_toArray, List.map_cons, List.map_nil, hs, hx, hrun]
  exact hK' _ _ (hK v' w' r1 r2 r3)
end Go.Proofs.Ytadheikcgdhcdaa
