/-
  A slice of one-cell elements at whatever offset of its block, and append of one more.
-/
import Derived.ArgAppend
import Derived.Deep.AppendLies
import Derived.Deep.RegionLaw
import Derived.Test.YtadheikcgdhcdaaBase
namespace Go.Proofs.Ytadheikcgdhcdaa
open Go.RowKit
set_option linter.unusedVariables false
set_option linter.unusedSimpArgs false

/-- v is a slice whose elements are vs: nil, or so many cells from some offset on, in a block that lies behind base. -/
def SS (w : World) (base : Nat) (e : TypeId) (v : Value) (vs : List Value) : Prop :=
  (v = .slice none 0 0 ∧ vs = []) ∨ ∃ g o cap cs, v = .slice (some ⟨g, o, none⟩) vs.length cap ∧ base ≤ g ∧ Blk w g cs e ∧ vs.length ≤ cap ∧ cap ≤ maxLen ∧ o + cap ≤ cs.length ∧ ∀ i, i < vs.length → cs[o + i]? = vs[i]?

theorem SS.nil (w : World) (base : Nat) (e : TypeId) : SS w base e (.slice none 0 0) [] := .inl ⟨rfl, rfl⟩
theorem SS.fr {S : Nat → Prop} {w w' : World} {base : Nat} {e : TypeId} {v : Value} {vs : List Value} (h : SS w base e v vs) (hF : Fr S w w') (hS : ∀ g, v.ownBlock = some g → ¬ S g) : SS w' base e v vs := by
  rcases h with h | ⟨g, o, cap, cs, rfl, hb, hB, h1, h2, h3, h4⟩
  · exact .inl h
  · exact .inr ⟨g, o, cap, cs, rfl, hb, hB.fr hF (hS g rfl), h1, h2, h3, h4⟩
theorem SS.own {w : World} {base g : Nat} {e : TypeId} {v : Value} {vs : List Value} (h : SS w base e v vs) (hv : v.ownBlock = some g) : base ≤ g ∧ g < w.heap.size := by
  rcases h with ⟨h, _⟩ | ⟨g', o, cap, cs, rfl, hb, hB, h1, h2, h3, h4⟩
  · rw [h] at hv; cases hv
  · have : g' = g := by simpa [Value.ownBlock] using hv
    subst this
    exact ⟨hb, hB.lt⟩
theorem SS.of_own {w : World} {base n : Nat} {e : TypeId} {v : Value} {xs : List Value} (h : w.ownsRow base e 1 v n xs) : SS w base e v xs := by
  have hl : xs.length = n := by simpa using h.1
  rcases h.2 with ⟨h1, h2⟩ | ⟨g, cap, cur, rfl, hb, hh, h1, h2, h3, h4⟩
  · exact .inl ⟨h1, List.eq_nil_of_length_eq_zero (by omega)⟩
  · refine .inr ⟨g, 0, cap, cur.toList, by rw [hl], hb, by unfold Blk; simpa using hh, by omega, h2, by simp; omega, fun i hi => ?_⟩
    rw [Nat.zero_add]
    have h5 : (cur.toList.take (n * 1))[i]? = xs[i]? := by rw [h4]
    rw [List.getElem?_take, if_pos (by omega)] at h5
    exact h5
theorem SS.cell {w : World} {base : Nat} {e : TypeId} {v : Value} {vs : List Value} (h : SS w base e v vs) (i : Nat) (x : Value) (hx : vs[i]? = some x) : ∃ g o cap, v = .slice (some ⟨g, o, none⟩) vs.length cap ∧ w.cell? ⟨g, o + i, none⟩ = some x := by
  have hlt : i < vs.length := (List.getElem?_eq_some_iff.1 hx).1
  rcases h with ⟨_, rfl⟩ | ⟨g, o, cap, cs, rfl, hb, hB, h1, h2, h3, h4⟩
  · cases hx
  · exact ⟨g, o, cap, rfl, hB.cell (o + i) (by rw [h4 i hlt]; exact hx)⟩
/-- All but the first. -/
theorem SS.tail {w : World} {base g o n cap : Nat} {e : TypeId} {x : Value} {vs : List Value} (h : SS w base e (.slice (some ⟨g, o, none⟩) n cap) (x :: vs)) (hc : 1 < cap) : SS w base e (.slice (some ⟨g, o + 1, none⟩) (n - 1) (cap - 1)) vs := by
  rcases h with ⟨h, _⟩ | ⟨g', o', cap', cs, h0, hb, hB, h1, h2, h3, h4⟩
  · cases h
  · simp only [Value.slice.injEq, Option.some.injEq, Addr.mk.injEq] at h0
    obtain ⟨⟨rfl, rfl, _⟩, rfl, rfl⟩ := h0
    simp only [List.length_cons] at h1 h4
    refine .inr ⟨g, o + 1, cap - 1, cs, by simp, hb, hB, by omega, by omega, by omega, fun i hi => ?_⟩
    have := h4 (i + 1) (by omega)
    rw [show o + 1 + i = o + (i + 1) from by omega, this]
    rfl

/-- One more: at the operation, in a step of a region that draws. -/
theorem step_append_ss {w : World} {ops : Array Oper} {o : Oper} {a : Act} {K : Act → World → Prop} {Q : Exit → Act → World → Prop} {E : Prop} (hg : o.guard = none) (s x : Operand) (t : TypeId)
    (hop : o.op = Op.call { callee := Callee.builtin Builtin.append, args := #[s, x], argTypes := #[t, t] })
    (e : TypeId) (i : TypeInfo) (z : Value) (bytes : Nat) (ht : Try.prog.underlying t = some (.slice e)) (hi : Try.prog.info? e = some i) (hz : i.zero = some z) (hs1 : i.size = 1) (hby : i.bytes = bytes) (hzs : z.cells.size = 1)
    (base : Nat) (v : Value) (vs : List Value) (hs : a.eval s = v) (hv : SS w base e v vs) (hbase : base ≤ w.heap.size)
    (ad : Addr) (c : Nat) (u : Value) (hx : a.eval x = .slice (some ad) 1 c) (hu : w.cell? ad = some u) (h1 : u.oneCell' = true) (hb1 : vs.length + 1 ≤ maxLen) (hb2 : (vs.length + 1) * bytes ≤ 140737488355328)
    (hK : ∀ v' w', SS w' base e v' (vs ++ [u]) → w.grownBy w' v.ownBlock → (∀ g, v'.ownBlock = some g → v.ownBlock = some g ∨ w.heap.size ≤ g) → K (a.put o.dst v') w') :
    if Region.wanted o (yielded ops a.tmps) = true then Oper.wp Try.prog o a w K Q else E := by
  have hc : ∀ j y, ([u] : List Value)[j]? = some y → w.cell? (ad.add j) = some y := fun j y hj => by
    have hj0 : j = 0 := by
      have := (List.getElem?_eq_some_iff.1 hj).1
      simp at this; exact this
    subst hj0
    have : ad.add 0 = ad := by unfold Addr.add; split <;> simp_all
    rw [this, hu]
    simpa using hj
  have hm1 : ∀ y ∈ ([u] : List Value), y.oneCell' = true := fun y hy => by rw [List.mem_singleton.1 hy]; exact h1
  have key : ∃ v' w', (Builtin.append_ #[t, t] o.type #[v, .slice (some ad) 1 c]).run Try.prog w = .ok v' w' ∧ SS w' base e v' (vs ++ [u]) ∧ w.grownBy w' v.ownBlock ∧ (∀ g, v'.ownBlock = some g → v.ownBlock = some g ∨ w.heap.size ≤ g) := by
    rcases hv with ⟨rfl, rfl⟩ | ⟨g, of, cap, cs, rfl, hb, hB, q1, q2, q3, q4⟩
    · obtain ⟨v', w', hrun, r1, r2, _⟩ := run_append_own (P := Try.prog) w w.heap.size t o.type e i z 1 bytes ht hi hz hs1 hby hzs (by decide) (.slice none 0 0) 0 [] (World.ownsRow_nil w _ e 1) ad 1 c [u] rfl hc hm1 (by simpa using hb1) (by simpa using hb2) (Nat.le_refl _)
      have hss : SS w' base e v' ([] ++ [u]) := by
        rcases SS.of_own r1 with h | ⟨g, o', cap, cs, h0, hb, h2⟩
        · exact absurd h.2 (by simp)
        · exact .inr ⟨g, o', cap, cs, h0, Nat.le_trans hbase hb, h2⟩
      refine ⟨v', w', hrun, hss, r2, fun g hg => .inr ?_⟩
      exact ((SS.of_own r1).own hg).1
    · by_cases hroom : vs.length + 1 ≤ cap
      · have hlt : of + vs.length < cs.length := by omega
        obtain ⟨y, hy⟩ : ∃ y, cs[of + vs.length]? = some y := ⟨_, List.getElem?_eq_getElem hlt⟩
        have hrun := run_append_room_cells (P := Try.prog) w t o.type e i ht hi g of vs.length cap ad 1 c [u] (by rw [hs1]; rfl) hc hm1 hroom
          (fun j hj => by
            have hj0 : j = 0 := by simpa using hj
            subst hj0
            rw [hs1, show of + vs.length * 1 + 0 = of + vs.length from by omega, hB.cell _ hy]; rfl) (fun j hj => hB.frozen _)
        rw [hs1, show of + vs.length * 1 = of + vs.length from by omega] at hrun
        have hset : w.setCells g (of + vs.length) [u] = w.setCell ⟨g, of + vs.length, none⟩ u := by simp [World.setCells]
        rw [hset] at hrun
        refine ⟨_, _, hrun, ?_, ?_, fun g' hg' => .inl (by simpa [Value.ownBlock] using hg')⟩
        · refine .inr ⟨g, of, cap, cs.set (of + vs.length) u, by simp, hb, hB.set _ u, by simpa using hroom, q2, by simpa using q3, fun j hj => ?_⟩
          simp only [List.length_append, List.length_singleton] at hj
          by_cases hjl : j = vs.length
          · subst hjl
            rw [List.getElem?_set_self hlt]; simp
          · rw [List.getElem?_set_ne (by omega), q4 j (by omega), List.getElem?_append_left (by omega)]
        · have hF := Fr.set1 w ⟨g, of + vs.length, none⟩ u
          exact ⟨hF.os, hF.tape, hF.output, hF.size, fun k hk hn => hF.block k hk (fun e => hn (by show some k = some g; rw [e]))⟩
      · have holds : ∀ j y, vs[j]? = some y → w.cell? ((⟨g, of, none⟩ : Addr).add j) = some y := fun j y hj => by
          have hjl := (List.getElem?_eq_some_iff.1 hj).1
          have hadd : (⟨g, of, none⟩ : Addr).add j = ⟨g, of + j, none⟩ := by unfold Addr.add; split <;> simp_all
          rw [hadd]
          exact hB.cell _ (by rw [q4 j hjl]; exact hj)
        obtain ⟨v', w', hrun, r1, r2⟩ := run_append_arg_grows (P := Try.prog) w t o.type e i z 1 bytes ht hi hz hs1 hby hzs (by decide) ⟨g, of, none⟩ vs.length cap vs (by simp) holds ad 1 c [u] rfl hc (by omega) hb1 hb2
        have hss : SS w' base e v' (vs ++ [u]) := by
          rcases SS.of_own r1 with h | ⟨g, o', cap, cs, h0, hb, h2⟩
          · exact absurd h.2 (by simp)
          · exact .inr ⟨g, o', cap, cs, h0, Nat.le_trans hbase hb, h2⟩
        refine ⟨v', w', hrun, hss, ⟨r2.os, r2.tape, r2.output, r2.size, fun k hk _ => r2.block k hk (by simp)⟩, fun g' hg' => .inr ((SS.of_own r1).own hg').1⟩
  obtain ⟨v', w', hrun, r1, r2, r3⟩ := key
  have hw : Region.wanted o (yielded ops a.tmps) = true := by simp [Region.wanted, hg]
  rw [if_pos hw]
  unfold Oper.wp
  simp only [execOp, hop, resolve, invoke, builtin, Sem.run_bind, Sem.run_pure, Result.andThen_ok, List.map_toArray, List.map_cons, List.map_nil, hs, hx, hrun]
  exact hK v' w' r1 r2 r3
end Go.Proofs.Ytadheikcgdhcdaa
