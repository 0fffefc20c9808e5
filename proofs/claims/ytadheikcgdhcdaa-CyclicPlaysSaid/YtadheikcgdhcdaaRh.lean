/-
  The reference's side of a way: a message is put; a row that grows by another one.
-/
import Derived.Test.YtadheikcgdhcdaaRg
import Derived.Test.YtadheikcgdhcdaaQu
namespace Go.Proofs.Ytadheikcgdhcdaa
open Go.RowKit
set_option linter.unusedVariables false
set_option linter.unusedSimpArgs false

/-- A row that is full grows by another one: into new memory, or not at all. -/
theorem SS.appends {w : World} {base b2 : Nat} {e : TypeId} {v v2 : Value} {vs vs2 : List Value} (hv : SS w base e v vs) (hv2 : SS w b2 e v2 vs2) (hfull : ∃ a, v = .slice a vs.length vs.length)
    (hbase : base ≤ w.heap.size) (t ty : TypeId) (i : TypeInfo) (z : Value) (ht : Try.prog.underlying t = some (.slice e)) (hi : Try.prog.info? e = some i) (hz : i.zero = some z) (hs1 : i.size = 1) (hby : i.bytes ≤ 1000) (hzs : z.cells.size = 1)
    (h1 : ∀ y ∈ vs2, y.oneCell' = true) (hb1 : vs.length + vs2.length ≤ 3000) :
    ∃ v' w', (Builtin.append_ #[t, t] ty #[v, v2]).run Try.prog w = .ok v' w' ∧ SS w' base e v' (vs ++ vs2) ∧ Below w.heap.size w w' ∧ (∀ g, v'.ownBlock = some g → v.ownBlock = some g ∨ w.heap.size ≤ g) := by
  have hm : vs.length + vs2.length ≤ maxLen := by unfold maxLen; omega
  have hbb : (vs.length + vs2.length) * i.bytes ≤ 140737488355328 := Nat.le_trans (Nat.mul_le_mul hb1 hby) (by decide)
  have hgr : ∀ w', w.grownBy w' none → Below w.heap.size w w' := fun w' h => ⟨h.os, h.tape, h.output, h.size, fun k hk => h.block k hk (by simp)⟩
  have hre : ∀ {w' : World} {v' : Value} {xs : List Value}, SS w' w.heap.size e v' xs → SS w' base e v' xs := fun h => by
    rcases h with h | ⟨g, o, cap, cs, h0, hb, h2⟩
    · exact .inl h
    · exact .inr ⟨g, o, cap, cs, h0, Nat.le_trans hbase hb, h2⟩
  rcases hv2 with ⟨rfl, rfl⟩ | ⟨g2, o2, cap2, cs2, rfl, hb2, hB2, p1, p2, p3, p4⟩
  · refine ⟨v, w, ?_, by rw [List.append_nil]; exact hv, Below.refl _ _, fun g hg => .inl hg⟩
    obtain ⟨a, ha⟩ := hfull
    rcases hv with ⟨rfl, rfl⟩ | ⟨g, o, cap, cs, rfl, hb, hB, q1, q2, q3, q4⟩
    · simp [Builtin.append_, run_underlying ht, sizeOf, typeInfo, hi, Builtin.lenOf, Builtin.firstCells]
    · simp [Builtin.append_, run_underlying ht, sizeOf, typeInfo, hi, Builtin.lenOf, Builtin.firstCells, q1, storeCells]
  · have hadd2 : ∀ j, (⟨g2, o2, none⟩ : Addr).add j = ⟨g2, o2 + j, none⟩ := fun j => by unfold Addr.add; split <;> simp_all
    have hnews : ∀ j u, vs2[j]? = some u → w.cell? ((⟨g2, o2, none⟩ : Addr).add j) = some u := fun j u hj => by
      have hjl := (List.getElem?_eq_some_iff.1 hj).1
      rw [hadd2]
      exact hB2.cell _ (by rw [p4 j hjl]; exact hj)
    rcases hv with ⟨rfl, rfl⟩ | ⟨g, o, cap, cs, rfl, hb, hB, q1, q2, q3, q4⟩
    · obtain ⟨v', w', hrun, r1, r2, _⟩ := run_append_own (P := Try.prog) w w.heap.size t ty e i z 1 i.bytes ht hi hz hs1 rfl hzs (by decide) (.slice none 0 0) 0 [] (World.ownsRow_nil w _ e 1) ⟨g2, o2, none⟩ vs2.length cap2 vs2 (by omega) hnews h1 (by simpa using hm) (by simpa using hbb) (Nat.le_refl _)
      exact ⟨v', w', hrun, hre (SS.of_own r1), hgr w' r2, fun g hg => .inr ((SS.of_own r1).own hg).1⟩
    · obtain ⟨a, ha⟩ := hfull
      simp only [Value.slice.injEq] at ha
      obtain ⟨-, -, rfl⟩ := ha
      by_cases h0 : vs2 = []
      · subst h0
        have hrun := run_append_room_cells (P := Try.prog) w t ty e i ht hi g o vs.length vs.length ⟨g2, o2, none⟩ 0 cap2 [] (by simp) (fun j u hj => by simp at hj) (fun u hu => by simp at hu) (by omega) (fun j hj => by simp at hj) (fun j hj => by simp at hj)
        refine ⟨_, _, hrun, ?_, Below.refl _ _, fun g' hg' => .inl (by simpa [Value.ownBlock] using hg')⟩
        rw [List.append_nil]
        exact .inr ⟨g, o, vs.length, cs, rfl, hb, hB, q1, q2, q3, q4⟩
      · have hpos : 0 < vs2.length := List.length_pos_iff.2 h0
        have holds : ∀ j y, vs[j]? = some y → w.cell? ((⟨g, o, none⟩ : Addr).add j) = some y := fun j y hj => by
          have hjl := (List.getElem?_eq_some_iff.1 hj).1
          have hadd : (⟨g, o, none⟩ : Addr).add j = ⟨g, o + j, none⟩ := by unfold Addr.add; split <;> simp_all
          rw [hadd]
          exact hB.cell _ (by rw [q4 j hjl]; exact hj)
        obtain ⟨v', w', hrun, r1, r2⟩ := run_append_arg_grows (P := Try.prog) w t ty e i z 1 i.bytes ht hi hz hs1 rfl hzs (by decide) ⟨g, o, none⟩ vs.length vs.length vs (by simp) holds ⟨g2, o2, none⟩ vs2.length cap2 vs2 (by omega) hnews (by omega) hm hbb
        exact ⟨v', w', hrun, hre (SS.of_own r1), hgr w' r2, fun g' hg' => .inr ((SS.of_own r1).own hg').1⟩
theorem wpList_appends {w : World} {ops : Array Oper} {rest : List Oper} {o : Oper} {a : Act} {Q : Exit → Act → World → Prop}
    (hg : o.guard = none) (s x : Operand) (hop : o.op = Op.call { callee := Callee.builtin Builtin.append, args := #[s, x], argTypes := #[49, 49] })
    (base b2 : Nat) (v v2 : Value) (vs vs2 : List Value) (hs : a.eval s = v) (hx : a.eval x = v2) (hv : SS w base 33 v vs) (hv2 : SS w b2 33 v2 vs2) (hfull : ∃ a, v = .slice a vs.length vs.length) (hbase : base ≤ w.heap.size)
    (h1 : ∀ y ∈ vs2, y.oneCell' = true) (hb1 : vs.length + vs2.length ≤ 3000)
    (hK : ∀ v' w', SS w' base 33 v' (vs ++ vs2) → Below w.heap.size w w' → (∀ g, v'.ownBlock = some g → v.ownBlock = some g ∨ w.heap.size ≤ g) → wpList Try.prog ops Q rest (a.put o.dst v') w') :
    wpList Try.prog ops Q (o :: rest) a w := by
  refine wpList_plain hg fun K hK' => ?_
  obtain ⟨i0, hi, hi0, hi1, hi2⟩ := info_parts infoC33
  obtain ⟨v', w', hrun, r1, r2, r3⟩ := hv.appends hv2 hfull hbase 49 o.type i0 (.slice none 0 0) Try.underlying49 hi hi0 hi1 (by omega) rfl h1 hb1
  unfold Oper.wp
  simp only [execOp, hop, resolve, invoke, builtin, Sem.run_bind, Sem.run_pure, Result.andThen_ok, List.map_toArray, List.map_cons, List.map_nil, hs, hx, hrun]
  exact hK' _ _ (hK v' w' r1 r2 r3)
theorem wpList_append_one {w : World} {ops : Array Oper} {rest : List Oper} {o : Oper} {a : Act} {Q : Exit → Act → World → Prop}
    (hg : o.guard = none) (s x : Operand) (hop : o.op = Op.call { callee := Callee.builtin Builtin.append, args := #[s, x], argTypes := #[49, 49] })
    (base : Nat) (v : Value) (vs : List Value) (hs : a.eval s = v) (hv : SS w base 33 v vs) (hbase : base ≤ w.heap.size)
    (ad : Addr) (c : Nat) (u : Value) (hx : a.eval x = .slice (some ad) 1 c) (hu : w.cell? ad = some u) (h1 : u.oneCell' = true) (hb1 : vs.length ≤ 3000)
    (hK : ∀ v' w', SS w' base 33 v' (vs ++ [u]) → w.grownBy w' v.ownBlock → (∀ g, v'.ownBlock = some g → v.ownBlock = some g ∨ w.heap.size ≤ g) → wpList Try.prog ops Q rest (a.put o.dst v') w') :
    wpList Try.prog ops Q (o :: rest) a w := by
  refine wpList_plain hg fun K hK' => ?_
  obtain ⟨i0, hi, hi0, hi1, hi2⟩ := info_parts infoC33
  have hw : Region.wanted o (yielded ops a.tmps) = true := by simp [Region.wanted, hg]
  have := step_append_ss (K := K) (Q := Q) (E := True) (ops := ops) hg s x 49 hop 33 i0 (.slice none 0 0) 24 Try.underlying49 hi hi0 hi1 hi2 rfl base v vs hs hv hbase ad c u hx hu h1 (by unfold maxLen; omega) (by omega) (fun v' w' r1 r2 r3 => hK' _ _ (hK v' w' r1 r2 r3))
  rw [if_pos hw] at this
  exact this
theorem RR.len {W w : World} {a : Option Addr} {n c : Nat} {L : List (List Int)} (h : RR W w (.slice a n c) L) : n = L.length ∧ n ≤ c ∧ c ≤ maxLen := by
  obtain ⟨vs, hSS, hl, hm⟩ := h
  obtain ⟨a', c', e, h1, h2⟩ := hSS.shape2
  simp only [Value.slice.injEq] at e
  obtain ⟨-, rfl, rfl⟩ := e
  omega
theorem Oct.one {w : World} {v : Value} {x : List Int} (h : Oct w v x) : v.oneCell' = true := by
  obtain ⟨a, c, rfl, _⟩ := h
  rfl
theorem RR.ones {W : World} {L : List (List Int)} {vs : List Value} (hl : vs.length = L.length) (hm : ∀ (i : Nat) (x : List Int), L[i]? = some x → ∃ v, vs[i]? = some v ∧ Oct W v x) : ∀ y ∈ vs, y.oneCell' = true := by
  intro y hy
  obtain ⟨i, hi, rfl⟩ := List.getElem_of_mem hy
  obtain ⟨x, hx⟩ : ∃ x, L[i]? = some x := ⟨_, List.getElem?_eq_getElem (by omega)⟩
  obtain ⟨v, hv, ho⟩ := hm i x hx
  rw [List.getElem?_eq_getElem hi] at hv
  have : vs[i] = v := by simpa using hv
  rw [this]
  exact ho.one
/-- The error's number where one is put. -/
def putR (most oct : Int) (L : List (List Int)) (n : Nat) : Int := if n < 3 then 5 else if 273 < n then 6 else if most ≤ (L.length : Int) ∨ oct < octs L + n then 3 else 0
set_option maxRecDepth 100000 in
theorem rput_no (W w : World) (vL : Value) (L : List (List Int)) (hL : RR W w vL L) (sent first most oct : Int) (t : SdT) (v : Value) (x : List Int) (hv : Oct w v x) (hs1 : L.length ≤ 1000) (h3 : ∀ x ∈ L, x.length ≤ 300) (hx : x.length ≤ 1000) (hk : putR most oct L x.length ≠ 0) :
    Calls Try.prog 28 #[.agg (sdc vL sent first most oct t).toArray, v] w fun e w' => e = .returned (.tuple #[.agg (sdc vL sent first most oct t).toArray, .int .i64 (putR most oct L x.length)]) ∧ Below w.heap.size w w' := by
  obtain ⟨a, c, rfl⟩ := hL.shape
  obtain ⟨av, cv, rfl, -⟩ := hv
  obtain ⟨X, hX, hS, hR, hb⟩ := side_in w (sdc (.slice a L.length c) sent first most oct t)
  have hL1 := hL.below hb
  have c0 := hS.cell 0 rfl
  have c3 := hS.cell 3 rfl
  have c4 := hS.cell 4 rfl
  have hsz := fun d => rsize (hL1.fr (S := fun _ => False) (Fr.refl _ _ |>.drewN d) (fun _ _ h => h)) hs1 h3
  have hob := octs_bd L h3
  unfold putR at hk ⊢
  obtain ⟨n, hn⟩ : ∃ n, x.length = n := ⟨_, rfl⟩
  rw [hn] at hx hk ⊢
  clear hn
  by_cases h1 : n < 3
  · have h1i : (n : Int) < 3 := by omega
    rw [if_pos h1]
    go_enter Try.func28, Try.ntmps28
    go_upto_region 1 with fail
    rw [← hX]
    clear hX
    go_wp2_with (first | (refine wpList_side_load rfl (.tmp 2) rfl w.heap.size rfl _ hS rfl ?_) | (refine wpList_side_store rfl (.tmp 4) (.tmp 10) rfl (w.heap.size + 1) _ _ rfl rfl hR rfl rfl (sdc_one _ _ _ _ _ _ _ _) ?_))
    refine bodyPost_ret (res_row Try.results28 (by rfl) (Blk.row hR _) rfl) rfl ⟨rfl, ?_⟩
    exact below_row hb (by omega) _
  · have h1i : ¬ (n : Int) < 3 := by omega
    rw [if_neg h1] at hk ⊢
    by_cases h2 : 273 < n
    · have h2i : (273 : Int) < (n : Int) := by omega
      rw [if_pos h2]
      go_enter Try.func28, Try.ntmps28
      go_upto_region 1 with fail
      rw [← hX]
      clear hX
      go_wp2_with (first | (refine wpList_side_load rfl (.tmp 2) rfl w.heap.size rfl _ hS rfl ?_) | (refine wpList_side_store rfl (.tmp 4) (.tmp 14) rfl (w.heap.size + 1) _ _ rfl rfl hR rfl rfl (sdc_one _ _ _ _ _ _ _ _) ?_))
      refine bodyPost_ret (res_row Try.results28 (by rfl) (Blk.row hR _) rfl) rfl ⟨rfl, ?_⟩
      exact below_row hb (by omega) _
    · have h2i : ¬ (273 : Int) < (n : Int) := by omega
      rw [if_neg h2] at hk ⊢
      by_cases h4 : most ≤ (L.length : Int) ∨ oct < octs L + n
      · rw [if_pos h4]
        have hw : IntKind.i64.wrap (octs L + n) = octs L + n := wrapH _ (by omega)
        generalize octs L = q at *
        go_enter Try.func28, Try.ntmps28
        go_upto_region 1 with fail
        rw [← hX]
        clear hX
        go_upto_region 5 with fail
        by_cases h5 : most ≤ (L.length : Int)
        · have h5b : decide (most ≤ (L.length : Int)) = true := decide_eq_true h5
          go_quiet (fail)
          go_wp2_with (first | (refine wpList_side_load rfl (.tmp 2) rfl w.heap.size rfl _ (hS.drewN _) rfl ?_) | (refine wpList_side_store rfl (.tmp 4) (.tmp 32) rfl (w.heap.size + 1) _ _ rfl rfl (hR.drewN _) rfl rfl (sdc_one _ _ _ _ _ _ _ _) ?_))
          refine bodyPost_ret (res_row Try.results28 (by rfl) (Blk.row (hR.drewN _) _) rfl) rfl ⟨rfl, ?_⟩
          exact below_row (below_drewN hb _) (by omega) _
        · have h5b : decide (most ≤ (L.length : Int)) = false := decide_eq_false h5
          have h6 : oct < q + n := h4.resolve_left h5
          go_quiet ((go_at_call 77; exact Calls.quiet_of_same (hsz _)))
          go_wp2_with (first | (refine wpList_side_load rfl (.tmp 2) rfl w.heap.size rfl _ (hS.drewN _) rfl ?_) | (refine wpList_side_store rfl (.tmp 4) (.tmp 32) rfl (w.heap.size + 1) _ _ rfl rfl (hR.drewN _) rfl rfl (sdc_one _ _ _ _ _ _ _ _) ?_))
          refine bodyPost_ret (res_row Try.results28 (by rfl) (Blk.row (hR.drewN _) _) rfl) rfl ⟨rfl, ?_⟩
          exact below_row (below_drewN hb _) (by omega) _
      · exact absurd (by rw [if_neg h4]) hk
set_option maxRecDepth 100000 in
theorem rput_yes (W w : World) (vL : Value) (L : List (List Int)) (hL : RR W w vL L) (sent first most oct : Int) (t : SdT) (v : Value) (x : List Int) (hv : Oct W v x) (hs1 : L.length ≤ 1000) (h3 : ∀ x ∈ L, x.length ≤ 300) (hx : x.length ≤ 1000) (hk : putR most oct L x.length = 0) :
    Calls Try.prog 28 #[.agg (sdc vL sent first most oct t).toArray, v] w fun e w' => ∃ vL', e = .returned (.tuple #[.agg (sdc vL' sent first most oct t).toArray, .int .i64 0]) ∧ RR W w' vL' (L ++ [x]) ∧ Below w.heap.size w w' ∧ (∀ g, vL'.ownBlock = some g → w.heap.size ≤ g) := by
  obtain ⟨a, c, rfl⟩ := hL.shape
  have hv0 := hv
  have hone := hv.one
  obtain ⟨av, cv, rfl, -⟩ := hv
  obtain ⟨X, hX, hS, hR, hb⟩ := side_in w (sdc (.slice a L.length c) sent first most oct t)
  have hL1 := hL.below hb
  have c0 := hS.cell 0 rfl
  have c3 := hS.cell 3 rfl
  have c4 := hS.cell 4 rfl
  have hsz := fun d => rsize (hL1.fr (S := fun _ => False) (Fr.refl _ _ |>.drewN d) (fun _ _ h => h)) hs1 h3
  have hob := octs_bd L h3
  unfold putR at hk
  obtain ⟨n, hn⟩ : ∃ n, x.length = n := ⟨_, rfl⟩
  rw [hn] at hx hk hv0 ⊢
  have h1 : ¬ n < 3 := fun h => by rw [if_pos h] at hk; exact absurd hk (by decide)
  rw [if_neg h1] at hk
  have h2 : ¬ 273 < n := fun h => by rw [if_pos h] at hk; exact absurd hk (by decide)
  rw [if_neg h2] at hk
  have h4 : ¬ (most ≤ (L.length : Int) ∨ oct < octs L + n) := fun h => by rw [if_pos h] at hk; exact absurd hk (by decide)
  have h1i : ¬ (n : Int) < 3 := by omega
  have h2i : ¬ (273 : Int) < (n : Int) := by omega
  have h5 : ¬ most ≤ (L.length : Int) := fun h => h4 (.inl h)
  have h6 : ¬ oct < octs L + n := fun h => h4 (.inr h)
  have h5b : decide (most ≤ (L.length : Int)) = false := decide_eq_false h5
  have hw : IntKind.i64.wrap (octs L + n) = octs L + n := wrapH _ (by omega)
  generalize octs L = q at *
  go_enter Try.func28, Try.ntmps28
  go_upto_region 1 with fail
  rw [← hX]
  clear hX
  go_upto_region 5 with fail
  go_quiet ((go_at_call 77; exact Calls.quiet_of_same (hsz _)))
  have hS1 := hS.drewN nq
  have hR1 := hR.drewN nq
  have hb1 := below_drewN hb nq
  have hL2 := hL1.fr (S := fun _ => False) ((Fr.refl _ _).drewN nq) (fun _ _ h => h)
  clear hS hR hb hL1 c0 c3 c4 hsz hk h4 h6 hw hob
  generalize X.drewN nq = Y at *
  obtain ⟨vsL, hSS, hl, hm⟩ := hL2
  have c0 := hS1.cell 0 rfl
  go_upto_region 9 with (first | (at_builtin; refine wpList_appends (by rfl) (.tmp 33) (.tmp 35) (by rfl) 0 0 (.slice none 0 0) (.slice a L.length c) [] vsL (by rfl) (by rfl) (SS.nil _ _ _) hSS ⟨none, rfl⟩ (Nat.zero_le _) (RR.ones hl hm) (by simp [hl]; omega) ?_; intro v1 w1 r1 r2 r3) | fail)
  rw [List.nil_append] at r1
  have hr3 : ∀ g, v1.ownBlock = some g → Y.heap.size ≤ g := fun g hg => (r3 g hg).resolve_left (fun h => by cases h)
  have ha : Below w1.heap.size w1 (w1.alloc (.cells #[.slice av n cv] 33)) := (Below.refl _ _).alloc (Nat.le_refl _) _
  have hcell : (w1.alloc (.cells #[.slice av n cv] 33)).cell? ⟨w1.heap.size, 0, none⟩ = some (.slice av n cv) := (Blk.new w1 [.slice av n cv] 33).cell 0 rfl
  have hS3 := r1.fr (S := fun _ => False) (.of_below ha) (fun _ _ h => h)
  have hS2 := (hS1.below r2).below ha
  have hR2 := (hR1.below r2).below ha
  have hb2 := (bthen hb1 r2 |>.trans (ha.mono (Nat.le_trans hb1.size r2.size)))
  have hls := hS1.lt
  have hlr := hR1.lt
  have hbase2 : 0 ≤ (w1.alloc (.cells #[.slice av n cv] 33)).heap.size := Nat.zero_le _
  clear hS1 hR1 hb1 hSS r1 c0
  go_upto_region 10 with (first | (at_builtin; refine wpList_append_one (by rfl) (.tmp 37) (.tmp 39) (by rfl) 0 v1 vsL (by rfl) hS3 hbase2 ⟨w1.heap.size, 0, none⟩ 1 (.slice av n cv) (by rfl) hcell rfl (by omega) ?_; intro v2 w2 r4 r5 r6; obtain ⟨a2, c2, rfl, q1, q2⟩ := r4.shape2; have hS4 := hS2.grown r5 (fun e => by have := hr3 _ e; omega); have hR4 := hR2.grown r5 (fun e => by have := hr3 _ e; omega); have k0 := hS4.cell 0 rfl; have f0 := hS4.frozen 0) | fail)
  have hb3 : Below w.heap.size w w2 := hb2.trans ⟨r5.os, r5.tape, r5.output, Nat.le_trans (Nat.le_trans (Nat.le_of_lt hls) (Nat.le_trans r2.size ha.size)) r5.size |> fun h => by have := r5.size; exact this, fun k hk => r5.block k (by have := r2.size; have := ha.size; omega) (fun e => by have := hr3 k e.symm; omega)⟩
  have hlen : (vsL ++ [Value.slice av n cv]).length = L.length + 1 := by simp [hl]
  rw [hlen] at r4 r6
  have hS5 := (hS4.set 0 (.slice a2 (L.length + 1) c2)).as (show _ = sdc (.slice a2 (L.length + 1) c2) sent first most oct t from rfl)
  have hR5 := hR4.other (a := ⟨w.heap.size, 0, none⟩) (by show w.heap.size + 1 ≠ w.heap.size; omega) (.slice a2 (L.length + 1) c2)
  have hb4 := hb3.setCell (p := ⟨w.heap.size, 0, none⟩) (Nat.le_refl _) (.slice a2 (L.length + 1) c2)
  go_wp2_with (first | (refine wpList_side_load rfl (.tmp 2) rfl w.heap.size rfl _ hS5 rfl ?_) | (refine wpList_side_store rfl (.tmp 4) (.tmp 42) rfl (w.heap.size + 1) _ _ rfl rfl hR5 rfl rfl (sdc_one _ _ _ _ _ _ _ _) ?_))
  refine bodyPost_ret (res_row Try.results28 (by rfl) (Blk.row hR5 _) rfl) rfl ⟨.slice a2 (L.length + 1) c2, rfl, ⟨vsL ++ [.slice av n cv], ?_, by rw [hlen]; simp, ?_⟩, below_row hb4 (by omega) _, fun g hg => ?_⟩
  · have hF1 : Fr (fun q => q = w.heap.size ∨ q = w.heap.size + 1) w2 ((w2.setCell ⟨w.heap.size, 0, none⟩ (.slice a2 (L.length + 1) c2)).setRow (w.heap.size + 1) (sdc (.slice a2 (L.length + 1) c2) sent first most oct t).toArray) := ((Fr.refl _ _).setCell (p := ⟨w.heap.size, 0, none⟩) (.inl (.inl rfl)) _).row (.inl (.inr rfl)) _
    refine r4.fr hF1 (fun g hg e => ?_)
    obtain ⟨cs, q3⟩ := r4.own33 hg
    rcases e with rfl | rfl
    · exact Blk.apart q3 hS4 (by decide) rfl
    · exact Blk.apart q3 hR4 (by decide) rfl
  · intro i y hy
    by_cases hi : i < L.length
    · rw [List.getElem?_append_left hi] at hy
      obtain ⟨v, e1, e2⟩ := hm i y hy
      exact ⟨v, by rw [List.getElem?_append_left (by omega)]; exact e1, e2⟩
    · have hi2 : i = L.length := by
        have := (List.getElem?_eq_some_iff.1 hy).1
        simp at this
        omega
      subst hi2
      rw [List.getElem?_append_right (Nat.le_refl _), Nat.sub_self] at hy
      have hxy : x = y := by simpa using hy
      subst hxy
      refine ⟨.slice av n cv, ?_, hv0⟩
      rw [List.getElem?_append_right (by omega), hl, Nat.sub_self]
      rfl
  · rcases r6 g hg with e | e
    · have := hr3 g e
      omega
    · have := ha.size
      have := r2.size
      omega
theorem rnew (m o : Int) (w : World) : Calls Try.prog 27 #[.int .i64 m, .int .i64 o] w fun e w' => e = .returned (.agg (sdc (.slice none 0 0) 0 0 m o ⟨false, 0, 0, true, true, 127, false, -1, false, false, false, false, false⟩).toArray) ∧ Below w.heap.size w w' := by
  have hb : Below w.heap.size w (w.alloc (.cells side0.toArray 51)) := (Below.refl _ _).alloc (Nat.le_refl _) _
  go_enter Try.func27, Try.ntmps27
  go_wp2_with (refine wpList_side_store rfl (.tmp 4) (.tmp 7) rfl w.heap.size (sdc (.slice none 0 0) 0 0 m o ⟨false, 0, 0, true, true, 127, false, -1, false, false, false, false, false⟩) side0 rfl rfl (Blk.new w side0 51) rfl rfl (sdc_one _ _ _ _ _ _ _ _) ?_)
  refine bodyPost_ret (results_cell_row Try.results27 _ _ w.heap.size 51 _ (0, 0) _ (by rfl) (Blk.row (Blk.new w side0 51) (sdc (.slice none 0 0) 0 0 m o ⟨false, 0, 0, true, true, 127, false, -1, false, false, false, false, false⟩)) Try.underlying51 rfl (by rw [info51]; rfl)) rfl ⟨rfl, below_row hb (Nat.le_refl _) _⟩
end Go.Proofs.Ytadheikcgdhcdaa
