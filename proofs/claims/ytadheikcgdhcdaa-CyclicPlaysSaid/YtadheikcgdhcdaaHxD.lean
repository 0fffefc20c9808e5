/-
  The first so many elements of a row are deleted.
-/
import Derived.Test.YtadheikcgdhcdaaHxA
namespace Go.Proofs.Ytadheikcgdhcdaa
open Go.RowKit
set_option linter.unusedVariables false
set_option linter.unusedSimpArgs false

theorem Blk.cells {g : Nat} {e : TypeId} : ∀ (vs : List Value) (o : Nat) {w : World} {cs : List Value}, Blk w g cs e → o + vs.length ≤ cs.length → ∃ cs', Blk (w.setCells g o vs) g cs' e ∧ cs'.length = cs.length ∧ (∀ i, i < vs.length → cs'[o + i]? = vs[i]?) ∧ (∀ i, i < o ∨ o + vs.length ≤ i → cs'[i]? = cs[i]?)
  | [], o, w, cs, h, hl => ⟨cs, h, rfl, fun i hi => absurd hi (by simp), fun i _ => rfl⟩
  | v :: vs, o, w, cs, h, hl => by
    simp only [List.length_cons] at hl
    obtain ⟨cs', h1, h2, h3, h4⟩ := Blk.cells vs (o + 1) (h.set o v) (by simp; omega)
    refine ⟨cs', h1, by simpa using h2, fun i hi => ?_, fun i hi => ?_⟩
    · cases i with
      | zero =>
        have := h4 o (.inl (by omega))
        rw [Nat.add_zero, this, List.getElem?_set_self (by omega)]; rfl
      | succ i =>
        have := h3 i (by simpa using hi)
        rw [show o + (i + 1) = o + 1 + i from by omega, this]; rfl
    · simp only [List.length_cons] at hi
      rw [h4 i (by omega), List.getElem?_set_ne (by omega)]
theorem Fr.cells {S : Nat → Prop} (g : Nat) (hg : S g) : ∀ (vs : List Value) (o : Nat) (w : World), Fr S w (w.setCells g o vs)
  | [], o, w => Fr.refl _ _
  | v :: vs, o, w => by
    rw [World.setCells]
    exact ((Fr.set1 w ⟨g, o, none⟩ v).mono (fun k hk => by rw [hk]; exact hg)).then_ (Fr.cells g hg vs (o + 1) _)

/-- An append whose run is known: in a step of a region that draws. -/
theorem step_append_run {w : World} {ops : Array Oper} {o : Oper} {a : Act} {K : Act → World → Prop} {Q : Exit → Act → World → Prop} {E : Prop} (hg : o.guard = none) (s x : Operand) (t : TypeId)
    (hop : o.op = Op.call { callee := Callee.builtin Builtin.append, args := #[s, x], argTypes := #[t, t] }) {v u v' : Value} {w' : World} (hs : a.eval s = v) (hx : a.eval x = u)
    (hrun : (Builtin.append_ #[t, t] o.type #[v, u]).run Try.prog w = .ok v' w') (hK : K (a.put o.dst v') w') :
    if Region.wanted o (yielded ops a.tmps) = true then Oper.wp Try.prog o a w K Q else E := by
  have hw : Region.wanted o (yielded ops a.tmps) = true := by simp [Region.wanted, hg]
  rw [if_pos hw]
  unfold Oper.wp
  simp only [execOp, hop, resolve, invoke, builtin, Sem.run_bind, Sem.run_pure, Result.andThen_ok, List.map_toArray, List.map_cons, List.map_nil, hs, hx, hrun]
  exact hK

theorem delete_zero (a : Option Addr) (n c : Nat) (w : World) (hn : n ≤ 1000) (hc : n ≤ c) : Calls Try.prog 75 #[.slice a n c, .int .i64 0, .int .i64 0] w fun e w' => e = .returned (.slice a n c) ∧ w' = w := by
  have h1 : (0 : Int) ≤ n := by omega
  have h2 : (n : Int) ≤ c := by omega
  go_enter Try.func75, Try.ntmps75
  go_wp2
  go_ret
  exact ⟨rfl, rfl⟩

set_option maxHeartbeats 1000000 in
theorem delete_some (g o n c k : Nat) (vs cs : List Value) (w : World) (hB : Blk w g cs 33) (hl : vs.length = n) (hn : n ≤ 1000) (hc : n ≤ c) (hcm : c ≤ maxLen) (hco : o + c ≤ cs.length) (hcs : ∀ i, i < n → cs[o + i]? = vs[i]?) (hk : 0 < k ∧ k ≤ n) (h1 : ∀ u ∈ vs, u.oneCell' = true) :
    Calls Try.prog 75 #[.slice (some ⟨g, o, none⟩) n c, .int .i64 0, .int .i64 k] w fun e w' => e = .returned (.slice (some ⟨g, o, none⟩) (n - k) c) ∧ Fr (fun q => q = g) w w' ∧ SS w' 0 33 (.slice (some ⟨g, o, none⟩) (n - k) c) (vs.drop k) := by
  have a1 : (0 : Int) ≤ n := by omega
  have a2 : (n : Int) ≤ c := by omega
  have a3 : (0 : Int) ≤ k := by omega
  have a4 : (k : Int) ≤ n := by omega
  have a5 : (k : Int) ≤ c := by omega
  have a6 : ((0 : Int) = (k : Int)) = False := by simp; omega
  obtain ⟨i0, hi, hi0, hi1, hi2⟩ := info_parts infoC33
  have hB0 : Blk w.drew g cs 33 := hB.drew
  have hdl : (vs.drop k).length = n - k := by rw [List.length_drop, hl]
  have hdrop : ∀ j, (vs.drop k)[j]? = vs[k + j]? := fun j => by rw [List.getElem?_drop]
  have hrun : ∀ ty, (Builtin.append_ #[49, 49] ty #[.slice (some ⟨g, o, none⟩) 0 c, .slice (if c = k then some ⟨g, o, none⟩ else some ⟨g, o + k, none⟩) (n - k) (c - k)]).run Try.prog w.drew = .ok (.slice (some ⟨g, o, none⟩) (n - k) c) (w.drew.setCells g o (vs.drop k)) := fun ty => by
    obtain ⟨ad, had, hcell⟩ : ∃ ad : Addr, (if c = k then some (⟨g, o, none⟩ : Addr) else some ⟨g, o + k, none⟩) = some ad ∧ ∀ j u, (vs.drop k)[j]? = some u → w.drew.cell? (ad.add j) = some u := by
      by_cases hck : c = k
      · refine ⟨_, by rw [if_pos hck], fun j u hj => ?_⟩
        have := (List.getElem?_eq_some_iff.1 hj).1; omega
      · refine ⟨_, by rw [if_neg hck], fun j u hj => ?_⟩
        have hjl := (List.getElem?_eq_some_iff.1 hj).1
        have hadd : (⟨g, o + k, none⟩ : Addr).add j = ⟨g, o + k + j, none⟩ := by unfold Addr.add; split <;> simp_all
        rw [hadd]
        refine hB0.cell _ ?_
        rw [show o + k + j = o + (k + j) from by omega, hcs _ (by omega), ← hdrop]; exact hj
    rw [had]
    have := run_append_room_cells (P := Try.prog) w.drew 49 ty 33 i0 Try.underlying49 hi g o 0 c ad (n - k) (c - k) (vs.drop k) (by rw [hi1, hdl]; omega) hcell (fun u hu => h1 u (List.mem_of_mem_drop hu)) (by omega)
      (fun j hj => by
        obtain ⟨y, hy⟩ : ∃ y, cs[o + 0 * i0.size + j]? = some y := ⟨_, List.getElem?_eq_getElem (by rw [hi1]; omega)⟩
        rw [hB0.cell _ hy]; rfl) (fun j hj => hB0.frozen _)
    simpa using this
  obtain ⟨ds, hD, hD1, hD2, hD3⟩ := hB0.cells (vs.drop k) o (by omega)
  have hclr : ∀ ty, (Builtin.clear_ #[49] ty #[.slice (some ⟨g, o + (n - k), none⟩) (n - (n - k)) (c - (n - k))]).run Try.prog (w.drew.setCells g o (vs.drop k)) = .ok (.tuple #[]) ((w.drew.setCells g o (vs.drop k)).setCells g (o + (n - k)) (List.replicate (n - (n - k)) (.slice none 0 0))) := fun ty => 
    Lib.run_clear_slice (P := Try.prog) (w.drew.setCells g o (vs.drop k)) 49 33 ty (.slice none 0 0) Try.underlying49 (fun w => by kernel_rfl) (by rfl) (by rfl) g (o + (n - k)) (n - (n - k)) (c - (n - k)) (by omega)
      (fun j hj => by
        obtain ⟨y, hy⟩ : ∃ y, ds[o + (n - k) + j]? = some y := ⟨_, List.getElem?_eq_getElem (by omega)⟩
        rw [hD.cell _ hy]; rfl) (fun j hj => hD.frozen _)
  obtain ⟨es, hE, hE1, hE2, hE3⟩ := hD.cells (List.replicate (n - (n - k)) (.slice none 0 0)) (o + (n - k)) (by simp; omega)
  have hfr : Fr (fun q => q = g) w ((w.drew.setCells g o (vs.drop k)).setCells g (o + (n - k)) (List.replicate (n - (n - k)) (.slice none 0 0))) := (((Fr.refl _ w).drew).then_ (Fr.cells (S := fun q => q = g) g rfl _ _ _)).then_ (Fr.cells (S := fun q => q = g) g rfl _ _ _)
  have hSS : SS ((w.drew.setCells g o (vs.drop k)).setCells g (o + (n - k)) (List.replicate (n - (n - k)) (.slice none 0 0))) 0 33 (.slice (some ⟨g, o, none⟩) (n - k) c) (vs.drop k) := by
    refine .inr ⟨g, o, c, es, by rw [hdl], Nat.zero_le _, hE, by omega, hcm, by omega, fun i hi => ?_⟩
    rw [hE3 _ (by omega), hD2 i hi]
  have a7 : (c = n - k) = False := by simp; omega
  have a8 : ((n - k : Nat) : Int) ≤ n := by omega
  have a9 : (0 : Int) ≤ ((n - k : Nat) : Int) := by omega
  have HS := Lib.hid hSS
  have HF := Lib.hid hfr
  clear hSS hfr hE hE1 hE2 hE3 hD hD1 hD2 hD3 hB hB0 hdrop hdl hcs h1
  generalize (w.drew.setCells g o (vs.drop k)).setCells g (o + (n - k)) (List.replicate (n - (n - k)) (.slice none 0 0)) = w2 at *
  have HR := Lib.hid hrun
  have HC := Lib.hid hclr
  have A7 := Lib.hid a7
  have A8 := Lib.hid a8
  have A9 := Lib.hid a9
  clear hrun hclr a7 a8 a9 hi hi0 hi1 hi2 hl hn hcm hco
  go_enter Try.func75, Try.ntmps75
  go_wp2
  go_region_law (refine step_append_run (by rfl) (.tmp 22) (.tmp 25) 49 (by rfl) (v := .slice (some ⟨g, o, none⟩) 0 c) rfl rfl (HR.out _) ?_)
  generalize w.drew.setCells g o (vs.drop k) = w1 at HC ⊢
  have hclr := HC.out
  have a7 := A7.out
  have a8 := A8.out
  have a9 := A9.out
  go_wp2
  all_goals go_ret
  · subst h; exact ⟨rfl, HF.out, HS.out⟩
  · exact ⟨rfl, HF.out, HS.out⟩

/-- The first k of a row are deleted. -/
theorem delete_any (v : Value) (vs : List Value) (k : Nat) (w : World) (hv : SS w 0 33 v vs) (hk : k ≤ vs.length) (hn : vs.length ≤ 1000) (h1 : ∀ u ∈ vs, u.oneCell' = true) :
    Calls Try.prog 75 #[v, .int .i64 0, .int .i64 k] w fun e w' => ∃ v', e = .returned v' ∧ Fr (fun q => v.ownBlock = some q) w w' ∧ SS w' 0 33 v' (vs.drop k) ∧ v'.ownBlock = v.ownBlock := by
  by_cases h0 : k = 0
  · subst h0
    obtain ⟨a, c, rfl⟩ := hv.shape
    have hc : vs.length ≤ c := by
      rcases hv with ⟨h, h2⟩ | ⟨g', o', cap', cs, h, _, _, h2, _⟩
      · rw [h2]; exact Nat.zero_le _
      · simp only [Value.slice.injEq] at h; omega
    refine (delete_zero a vs.length c w hn hc).mono ?_
    rintro e w' ⟨rfl, rfl⟩
    exact ⟨_, rfl, Fr.refl _ _, by simpa using hv, rfl⟩
  · rcases hv with ⟨rfl, rfl⟩ | ⟨g, o, c, cs, rfl, hb, hB, q1, q2, q3, q4⟩
    · exact absurd (Nat.le_zero.1 hk) h0
    · refine (delete_some g o vs.length c k vs cs w hB rfl hn q1 q2 q3 q4 ⟨by omega, hk⟩ h1).mono ?_
      rintro e w' ⟨rfl, r1, r2⟩
      exact ⟨_, rfl, r1.mono (fun q hq => by rw [hq]; rfl), r2, rfl⟩
end Go.Proofs.Ytadheikcgdhcdaa
