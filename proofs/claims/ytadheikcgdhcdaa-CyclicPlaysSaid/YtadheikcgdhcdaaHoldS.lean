/-
  A hold with many messages: the next one is sent.
-/
import Derived.Test.YtadheikcgdhcdaaHoldP
namespace Go.Proofs.Ytadheikcgdhcdaa
open Go.RowKit
set_option linter.unusedVariables false
set_option linter.unusedSimpArgs false

theorem SS.rest {w : World} {base g o n cap : Nat} {e : TypeId} {x : Value} {vs : List Value} (h : SS w base e (.slice (some ⟨g, o, none⟩) n cap) (x :: vs)) :
    SS w base e (.slice (if cap = 1 then some ⟨g, o, none⟩ else some ⟨g, o + 1, none⟩) vs.length (cap - 1)) vs := by
  rcases h with ⟨h, _⟩ | ⟨g', o', cap', cs, h0, hb, hB, h1, h2, h3, h4⟩
  · cases h
  · simp only [Value.slice.injEq, Option.some.injEq, Addr.mk.injEq] at h0
    obtain ⟨⟨rfl, rfl, _⟩, rfl, rfl⟩ := h0
    simp only [List.length_cons] at h1 h4
    by_cases hc : cap = 1
    · rw [if_pos hc]
      have hv0 : vs.length = 0 := by omega
      exact .inr ⟨g, o, cap - 1, cs, by simp, hb, hB, by omega, by omega, by omega, fun i hi => absurd hi (by omega)⟩
    · rw [if_neg hc]
      refine .inr ⟨g, o + 1, cap - 1, cs, by simp, hb, hB, by omega, by omega, by omega, fun i hi => ?_⟩
      have := h4 (i + 1) (by omega)
      rw [show o + 1 + i = o + (i + 1) from by omega, this]
      rfl
theorem Msgs.tail {w : World} {base : Nat} {v : Value} {vs : List Value} {x : List Int} {xs : List (List Int)} (h : Msgs w base (v :: vs) (x :: xs)) : Msgs w base vs xs := by
  refine ⟨by have := h.1; simpa using this, fun i y hy => ?_⟩
  obtain ⟨g, c, cs, h1, h2⟩ := h.2 (i + 1) y (by simpa using hy)
  exact ⟨g, c, cs, by simpa using h1, h2⟩

theorem send_done {base h g o nc gx cx : Nat} {m oc f : Int} {sv sv' : Value} {ss ns : List (List Int)} {w w5 wf : World} {ob : Obj} {x : List Int} {svs nvs csx : List Value}
    (k : HG w base h m oc f sv (.slice (some ⟨g, o, none⟩) (nvs.length + 1) nc) ss (x :: ns)) (hs1 : SS w base 33 sv svs) (hs2 : Msgs w base svs ss)
    (hn1 : SS w base 33 (.slice (some ⟨g, o, none⟩) (nvs.length + 1) nc) (.slice (some ⟨gx, 0, none⟩) x.length cx :: nvs)) (hn2 : Msgs w base (.slice (some ⟨gx, 0, none⟩) x.length cx :: nvs) (x :: ns))
    (hgx : base ≤ gx) (hBx : Blk w gx csx 5) (hcx : ∀ (j : Nat) (u : Value), (x.map (Value.int .u8))[j]? = some u → csx[j]? = some u)
    (hS : SS w5 base 33 sv' (svs ++ [.slice (some ⟨gx, 0, none⟩) x.length cx])) (hG : (w.alloc ob).grownBy w5 sv.ownBlock) (hv : ∀ q, sv'.ownBlock = some q → sv.ownBlock = some q ∨ (w.alloc ob).heap.size ≤ q)
    (hwf : (w5.setCell ⟨h, 2, none⟩ sv').setCell ⟨h, 4, none⟩ (.slice (if nc = 1 then some ⟨g, o, none⟩ else some ⟨g, o + 1, none⟩) nvs.length (nc - 1)) = wf ∨ (w5.setCell ⟨h, 4, none⟩ (.slice (if nc = 1 then some ⟨g, o, none⟩ else some ⟨g, o + 1, none⟩) nvs.length (nc - 1))).setCell ⟨h, 2, none⟩ sv' = wf) :
    HG wf base h m oc f sv' (.slice (if nc = 1 then some ⟨g, o, none⟩ else some ⟨g, o + 1, none⟩) nvs.length (nc - 1)) (ss ++ [x]) ns ∧ Fr (fun q => q = h ∨ base ≤ q) w wf ∧ Blk wf gx csx 5 := by
  have hlt := k.lt
  have hFg : Fr (fun q => sv.ownBlock = some q) (w.alloc ob) w5 := (Fr.refl _ _).grown hG (fun q e => .inl e)
  have hF5 : Fr (fun q => sv.ownBlock = some q) w w5 := ((Fr.refl _ w).alloc ob).then_ hFg
  have hso : ∀ q, sv.ownBlock = some q → base ≤ q ∧ q < w.heap.size := fun q e => hs1.own e
  have hh5 : Blk w5 h [.int .i64 m, .int .i64 oc, sv, .int .u8 f, .slice (some ⟨g, o, none⟩) (nvs.length + 1) nc] 105 := k.blk.fr hF5 (fun e => by have := (hso _ e).1; omega)
  have hkey : Blk wf h [.int .i64 m, .int .i64 oc, sv', .int .u8 f, .slice (if nc = 1 then some ⟨g, o, none⟩ else some ⟨g, o + 1, none⟩) nvs.length (nc - 1)] 105 ∧ Fr (fun q => q = h) w5 wf := by
    rcases hwf with rfl | rfl
    · exact ⟨(hh5.set 2 _).set 4 _, Fr.setCell (S := fun q => q = h) (p := ⟨h, 4, none⟩) (Fr.set1 w5 ⟨h, 2, none⟩ _) (.inl rfl) _⟩
    · exact ⟨(hh5.set 4 _).set 2 _, Fr.setCell (S := fun q => q = h) (p := ⟨h, 2, none⟩) (Fr.set1 w5 ⟨h, 4, none⟩ _) (.inl rfl) _⟩
  obtain ⟨hbf, hFs⟩ := hkey
  have hFall : Fr (fun q => sv.ownBlock = some q ∨ q = h) w wf := (hF5.mono (fun _ h => .inl h)).then_ (hFs.mono (fun _ h => .inr h))
  have hno : ∀ g' cs, Blk w g' cs 5 → base ≤ g' → ¬ (sv.ownBlock = some g' ∨ g' = h) := by
    rintro g' cs hB hb (e | e)
    · rcases hs1 with ⟨rfl, _⟩ | ⟨g2, o2, cap, cs', rfl, _, hB', _⟩
      · cases e
      · have : g2 = g' := by simpa [Value.ownBlock] using e
        subst this
        have := Eq.trans (Eq.symm (show w.heap[g2]? = _ from hB)) (show w.heap[g2]? = _ from hB')
        simp at this
    · omega
  have hgo : (Value.slice (some ⟨g, o, none⟩) (nvs.length + 1) nc).ownBlock = some g := rfl
  have hno' : ∀ q, (Value.slice (if nc = 1 then some ⟨g, o, none⟩ else some ⟨g, o + 1, none⟩) nvs.length (nc - 1)).ownBlock = some q → q = g := by
    intro q hq
    split at hq <;> simpa [Value.ownBlock, eq_comm] using hq
  have hnr := hn1.rest
  refine ⟨⟨hbf, ⟨_, hS.fr hFs ?_, (hs2.fr hFall hno).snoc hgx (hBx.fr hFall (hno _ _ hBx hgx)) hcx⟩, ⟨nvs, hnr.fr hFall ?_, (hn2.tail).fr hFall hno⟩, ?_, hlt, Nat.le_trans k.big hFall.size⟩, hFall.mono ?_, hBx.fr hFall (hno _ _ hBx hgx)⟩
  · intro q hq e
    have := (hS.own hq).1; omega
  · rintro q hq (e | e)
    · obtain rfl := hno' q hq
      exact k.sep q e hgo
    · obtain rfl := hno' q hq
      have := (hn1.own hgo).1; omega
  · intro q hq1 hq2
    obtain rfl := hno' q hq2
    rcases hv q hq1 with e | e
    · exact k.sep q e hgo
    · have := (hn1.own hgo).2; simp only [World.size_alloc] at e; omega
  · rintro q (e | e)
    · exact .inr (hso q e).1
    · exact .inl e
end Go.Proofs.Ytadheikcgdhcdaa
