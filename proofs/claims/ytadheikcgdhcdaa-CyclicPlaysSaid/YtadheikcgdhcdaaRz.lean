/-
  The reference's next unit of a cyclic way: an old one goes, or none.
-/
import Derived.Test.YtadheikcgdhcdaaRx
namespace Go.Proofs.Ytadheikcgdhcdaa
open Go.RowKit Go.Sort
set_option linter.unusedVariables false
set_option linter.unusedSimpArgs false

theorem WQ.uload {ops : Array Oper} {C : World → Prop} {Q : Act → Prop} {rest : List Oper} {o : Oper} {a : Act} (x : Operand) (ho : o.op = .load 69 x) (hw : Region.wanted o (yielded ops a.tmps) = true)
    (g : Nat) (hx : a.eval x = .pointer (some ⟨g, 0, none⟩)) (cs : List Value) (hg : ∀ w, C w → Blk w g cs 69) (hl : cs.length = 8)
    (h : WQ ops C Q rest (a.put o.dst (.agg cs.toArray))) : WQ ops C Q (o :: rest) a := by
  refine ⟨?_⟩
  unfold wpQuiet
  rw [if_pos hw]
  refine ⟨.agg cs.toArray, fun w hC => quietAt_value ?_, h.out⟩
  unfold execOp
  simp only [ho, hx, Instr.loadAt, Instr.sureAddr, Sem.run_bind, Sem.run_pure, Result.andThen_ok, run_loadVar_row (P := Try.prog) w g 69 69 cs.toArray (0, 0) _ (hg w hC) Try.underlying69 rfl (by rw [info69]; simp [hl])]
theorem any_one {P : Program} {ops : Array Oper} {Q : Exit → Act → World → Prop} {a : Act} {w : World} {L : Array Bool} {f : Nat} (i : Nat) (h0 : Region.ready .any ops L = [i]) (h : wpOp P ops Q i (wpAny P .any ops Q f (L.setIfInBounds i true)) a w) : wpAny P .any ops Q (f + 1) L a w := by
  refine ⟨fun e => (by rw [h0] at e; cases e), fun k hk => ?_⟩
  rw [h0] at hk
  obtain rfl := List.mem_singleton.1 hk
  exact h
theorem any_two {P : Program} {ops : Array Oper} {Q : Exit → Act → World → Prop} {a : Act} {w : World} {L : Array Bool} {f : Nat} (i j : Nat) (h0 : Region.ready .any ops L = [i, j]) (hi : wpOp P ops Q i (wpAny P .any ops Q f (L.setIfInBounds i true)) a w) (hj : wpOp P ops Q j (wpAny P .any ops Q f (L.setIfInBounds j true)) a w) : wpAny P .any ops Q (f + 1) L a w := by
  refine ⟨fun e => (by rw [h0] at e; cases e), fun k hk => ?_⟩
  rw [h0] at hk
  rcases List.mem_cons.1 hk with rfl | hk
  · exact hi
  · obtain rfl := List.mem_singleton.1 hk
    exact hj
theorem wpOp_value {P : Program} {ops : Array Oper} {Q : Exit → Act → World → Prop} {a : Act} {w : World} {K : Act → World → Prop} {j : Nat} {o : Oper} {v : Value} (d : Nat) (hj : ops[j]? = some o) (hgd : o.guard = none) (hd : o.dst = some d) (hr : (execOp a.eval o).run P w = .ok (.value v) w) (h : K (a.put (some d) v) w) : wpOp P ops Q j K a w := by
  unfold wpOp
  simp only [hj]
  rw [if_pos (by simp [Region.wanted, hgd])]
  left
  unfold Oper.wp
  rw [hr]
  show K (a.put o.dst v) w
  rw [hd]
  exact h
theorem run_unit_load {o : Oper} {a : Act} {w : World} (x : Operand) (ho : o.op = .load 69 x) (g : Nat) (hx : a.eval x = .pointer (some ⟨g, 0, none⟩)) (cs : List Value) (hg : Blk w g cs 69) (hl : cs.length = 8) : (execOp a.eval o).run Try.prog w = .ok (.value (.agg cs.toArray)) w := by
  unfold execOp
  simp only [ho, hx, Instr.loadAt, Instr.sureAddr, Sem.run_bind, Sem.run_pure, Result.andThen_ok, run_loadVar_row (P := Try.prog) w g 69 69 cs.toArray (0, 0) _ hg Try.underlying69 rfl (by rw [info69]; simp [hl])]
theorem unit_box (w : World) (cs : List Value) : ∃ X, X = (w.alloc (.cells #[.int .u8 0, .int .u8 0, .bool false, .bool false, .int .u8 0, .int .u8 0, .bool false, .slice none 0 0] 69)).setRow w.heap.size cs.toArray ∧ Blk X w.heap.size cs 69 ∧ Below w.heap.size w X :=
  ⟨_, rfl, Blk.row (Blk.new w unit0 69) cs, below_row ((Below.refl _ _).alloc (Nat.le_refl _) _) (Nat.le_refl _) _⟩
set_option maxHeartbeats 4000000 in
set_option maxRecDepth 100000 in
theorem ragain_BP {W w : World} {vL : Value} {L : List (List Int)} (hL : RR W w vL L) (sent pl : Nat) (first most oct : Int) (t : SdT) (hpl : t.place = (pl : Int)) (hpb : pl ≤ 1000) (hsl : sent ≤ L.length) (hn : L.length ≤ 1000) (h3 : ∀ x ∈ L, x.length ≤ 300) (hl : 0 ≤ t.last ∧ t.last ≤ 255) (hf : 0 ≤ first ∧ first ≤ 127) (hs : sent < L.length) (hfit : fitsR sent t.n1 t.n2 L = false) (hps : pl < sent) (x : List Int) (hx : L[pl]? = some x) :
    Calls Try.prog 87 #[.agg (sdc vL sent first most oct t).toArray] w fun e w' => ∃ v, Oct W v x ∧ e = .returned (.tuple #[.agg (sdc vL sent first most oct { t with place := (pl : Int) + 1, force := true }).toArray, .agg (ucs t.last ((first + (pl : Int)) % 128) t.bib t.fib 2 v).toArray]) ∧ Below w.heap.size w w' := by
  obtain ⟨g, off, c, v, rfl, hc, hv⟩ := hL.msg pl x hx
  have hcap := hL.len
  have hv0 := hv
  obtain ⟨va, vc, rfl, -⟩ := hv
  have HV := Lib.hid hv0
  have hil : pl < L.length := (List.getElem?_eq_some_iff.1 hx).1
  obtain ⟨X, hX, hS, hR, hU, hb⟩ := side_two w (sdc (.slice (some ⟨g, off, none⟩) L.length c) sent first most oct t)
  have hfi := fun w' (hb' : Below w.heap.size w w') (t' : SdT) => rfits (hL.below hb') sent first most oct t' hs hn h3
  have hmsg := fun w' (hb' : Below w.heap.size w w') (t' : SdT) (hl' : 0 ≤ t'.last ∧ t'.last ≤ 255) => rmsg g off L.length c va x.length vc w' (sent : Int) first most oct t' pl hil ⟨hcap.2.1, hcap.2.2⟩ ((hb'.cell (World.block_lt_of_cell? _ _ hc)).trans hc) hl' hf hn
  have hfi1 := fun w' (hb' : Below w.heap.size w w') (t' : SdT) (e1 : t'.n1 = t.n1) (e2 : t'.n2 = t.n2) => (by have := hfi w' hb' t'; rw [e1, e2, hfit] at this; exact this : Calls Try.prog 93 #[.agg (sdc (.slice (some ⟨g, off, none⟩) L.length c) sent first most oct t').toArray] w' fun e w'' => e = .returned (.bool false) ∧ Below w'.heap.size w' w'')
  obtain ⟨n, hnn⟩ : ∃ n, L.length = n := ⟨_, rfl⟩
  rw [hnn] at hX hS hs hn hfi1 hmsg ⊢
  have hsi : (sent : Int) < (n : Int) := by omega
  obtain ⟨M, hM⟩ : ∃ M, (first + ((pl : Nat) : Int)) % 128 = M := ⟨_, rfl⟩
  rw [hM] at hmsg
  have hM' : (first + (pl : Int)) % 128 = M := hM
  rw [hM']
  have HPL := Lib.hid hpl
  clear hpl
  have c0 := hS.cell 0 rfl
  have c1 := hS.cell 1 rfl
  have hpl0 : ¬ ((pl : Int) < 0) := by omega
  have hps2 : ¬ (sent : Int) ≤ (pl : Int) := by omega
  have hw1 : IntKind.i64.wrap ((pl : Int) + 1) = (pl : Int) + 1 := wrapH _ (by omega)
  clear hL hc hv0 hx hfi hfit h3 hnn hM hcap hsl
  go_enter Try.func87, Try.ntmps87
  go_upto_region 1 with fail
  rw [← hX]
  clear hX
  go_wp2_with (first | (refine wpList_side_load_g (.tmp 1) (by rfl) (by rfl) w.heap.size (by rfl) _ hS (by rfl) ?_) | (refine wpList_side_load rfl (.tmp 1) rfl w.heap.size rfl _ hS rfl ?_))
  refine (hfi1 X hb t rfl rfl).mono ?_
  rintro e X1 ⟨rfl, hbq⟩
  have hb1 := bthen hb hbq
  have hS1 := hS.below hbq
  have hR1 := hR.below hbq
  have hU1 := hU.below hbq
  clear hS hR hU hb hbq c0 c1
  have hb := hb1
  have hS := hS1
  have hR := hR1
  have hU := hU1
  clear hb1 hS1 hR1 hU1
  have c13 := hS.cell 13 rfl
  have f13 := hS.frozen 13
  go_upto_region 4 with fail
  clear c13 f13
  have hbX2 := hb.setCell (p := ⟨w.heap.size, 13, none⟩) (Nat.le_refl _) (.bool true)
  have hSX2 := (hS.set 13 (.bool true)).as (show _ = sdc (.slice (some ⟨g, off, none⟩) n c) sent first most oct { t with force := true } from rfl)
  have hRX2 := hR.other (a := ⟨w.heap.size, 13, none⟩) (by show w.heap.size + 1 ≠ w.heap.size; omega) (.bool true)
  have hUX2 := hU.other (a := ⟨w.heap.size, 13, none⟩) (by show w.heap.size + 1 + 1 ≠ w.heap.size; omega) (.bool true)
  clear hS hR hU hb
  generalize X1.setCell ⟨w.heap.size, 13, none⟩ (.bool true) = X2 at *
  have hb := hbX2
  have hS := hSX2
  have hR := hRX2
  have hU := hUX2
  clear hbX2 hSX2 hRX2 hUX2
  have c13 := hS.cell 13 rfl
  have c1 := hS.cell 1 rfl
  have c12 := hS.cell 12 rfl
  replace c12 := c12.trans (show _ = some (Value.int .i64 (pl : Int)) from by rw [← HPL.out])
  go_upto_region 11 with fail
  have hmg : Calls Try.prog 88 #[.agg (sdc (.slice (some ⟨g, off, none⟩) n c) (sent : Int) first most oct ({ t with force := true } : SdT)).toArray, .int .i64 ((pl : Int))] X2 fun e w'' => e = .returned (.agg (ucs t.last M t.bib t.fib 2 (.slice va x.length vc)).toArray) ∧ Below X2.heap.size X2 w'' := hmsg X2 hb ({ t with force := true } : SdT) hl
  clear hmsg
  go_upto_region 13 with fail
  go_wp2_with (first | (refine wpList_side_load_g (.tmp 1) (by rfl) (by rfl) w.heap.size (by rfl) _ hS (by rfl) ?_) | (refine wpList_side_load rfl (.tmp 1) rfl w.heap.size rfl _ hS rfl ?_))
  refine hmg.mono ?_
  rintro e X6 ⟨rfl, hbq⟩
  have hb1 := bthen hb hbq
  have hS1 := hS.below hbq
  have hR1 := hR.below hbq
  have hU1 := hU.below hbq
  clear hS hR hU hb
  have hb := hb1
  have hS := hS1
  have hR := hR1
  have hU := hU1
  clear hb1 hS1 hR1 hU1
  obtain ⟨X7, hX7, hB7, hb7⟩ := unit_box X6 (ucs t.last M t.bib t.fib 2 (.slice va x.length vc))
  have hR0 := Blk.new X6 unit0 69
  have hlt := hS.lt
  have hltU := hU.lt
  clear hmg hbq c1 c12
  go_upto_region 14 with (refine wpList_unit_store rfl (.tmp 7) (.tmp 69) rfl X6.heap.size (ucs t.last M t.bib t.fib 2 (.slice va x.length vc)) unit0 rfl rfl hR0 rfl rfl (ucs_one _ _ _ _ _ _ _ _) ?_)
  rw [← hX7]
  clear hX7 hR0
  have hb1 := bthen hb hb7
  have hS1 := hS.below hb7
  have hR1 := hR.below hb7
  have hU1 := hU.below hb7
  clear hS hR hU hb
  have hb := hb1
  have hS := hS1
  have hR := hR1
  have hU := hU1
  clear hb1 hS1 hR1 hU1
  clear hb7
  have c12 := hS.cell 12 rfl
  replace c12 := c12.trans (show _ = some (Value.int .i64 (pl : Int)) from by rw [← HPL.out])
  have f12 := hS.frozen 12
  go_upto_region 15 with fail
  clear c12 f12
  have hB8 := hB7.other (a := ⟨w.heap.size, 12, none⟩) (by show X6.heap.size ≠ w.heap.size; omega) (.int .i64 ((pl : Int) + 1))
  have hne1 : X6.heap.size ≠ w.heap.size + 1 := by omega
  clear hB7
  have hbX8 := hb.setCell (p := ⟨w.heap.size, 12, none⟩) (Nat.le_refl _) (.int .i64 ((pl : Int) + 1))
  have hSX8 := (hS.set 12 (.int .i64 ((pl : Int) + 1))).as (show _ = sdc (.slice (some ⟨g, off, none⟩) n c) sent first most oct { t with place := (pl : Int) + 1, force := true } from rfl)
  have hRX8 := hR.other (a := ⟨w.heap.size, 12, none⟩) (by show w.heap.size + 1 ≠ w.heap.size; omega) (.int .i64 ((pl : Int) + 1))
  have hUX8 := hU.other (a := ⟨w.heap.size, 12, none⟩) (by show w.heap.size + 1 + 1 ≠ w.heap.size; omega) (.int .i64 ((pl : Int) + 1))
  clear hS hR hU hb
  generalize X7.setCell ⟨w.heap.size, 12, none⟩ (.int .i64 ((pl : Int) + 1)) = X8 at *
  have hb := hbX8
  have hS := hSX8
  have hR := hRX8
  have hU := hUX8
  clear hbX8 hSX8 hRX8 hUX8
  generalize X6.heap.size = b7 at *
  refine wp_region_any (by kernel_rfl) ?_
  change wpAny Try.prog .any _ _ 4 (Array.replicate 4 false) _ _
  obtain ⟨X9, hX9⟩ : ∃ X9 : World, { X8 with drawn := X8.drawn + 1 } = X9 := ⟨_, rfl⟩
  have hb9 : Below X8.heap.size X8 X9 := by rw [← hX9]; exact ⟨rfl, rfl, rfl, Nat.le_refl _, fun _ _ => rfl⟩
  rw [hX9]
  have hB9 := hB8.below hb9
  have hb1 := bthen hb hb9
  have hS1 := hS.below hb9
  have hR1 := hR.below hb9
  have hU1 := hU.below hb9
  clear hS hR hU hb
  have hb := hb1
  have hS := hS1
  have hR := hR1
  have hU := hU1
  clear hb1 hS1 hR1 hU1
  clear hb9 hB8 hX9
  have hU5 := hU.fr (Fr.row1 X9 (w.heap.size + 1) (sdc (.slice (some ⟨g, off, none⟩) n c) (sent : Int) first most oct ({ t with place := (pl : Int) + 1, force := true } : SdT)).toArray) (fun e => by omega)
  have hB10 := hB9.fr (Fr.row1 X9 (w.heap.size + 1) (sdc (.slice (some ⟨g, off, none⟩) n c) (sent : Int) first most oct ({ t with place := (pl : Int) + 1, force := true } : SdT)).toArray) (fun e => by omega)
  have hRes := (Blk.row hR (sdc (.slice (some ⟨g, off, none⟩) n c) (sent : Int) first most oct ({ t with place := (pl : Int) + 1, force := true } : SdT))).fr (Fr.row1 (X9.setRow (w.heap.size + 1) (sdc (.slice (some ⟨g, off, none⟩) n c) (sent : Int) first most oct ({ t with place := (pl : Int) + 1, force := true } : SdT)).toArray) (w.heap.size + 1 + 1) (ucs t.last M t.bib t.fib 2 (.slice va x.length vc)).toArray) (fun e => by omega)
  refine any_two 0 1 (by kernel_rfl) ?_ ?_
  · refine wpOp_value 74 (by rfl) (by rfl) (by rfl) (run_side_load (.tmp 1) (by rfl) w.heap.size (by rfl) _ hS (by rfl)) ?_
    refine any_two 1 2 (by kernel_rfl) ?_ ?_
    · refine wpOp_value 75 (by rfl) (by rfl) (by rfl) (run_unit_load (.tmp 7) (by rfl) b7 (by rfl) _ hB9 (by rfl)) ?_
      refine any_one 2 (by kernel_rfl) ?_
      refine wpOp_side_store (by rfl) (by rfl) (by rfl) (.tmp 2) (.tmp 74) (by rfl) (w.heap.size + 1) (sdc (.slice (some ⟨g, off, none⟩) n c) (sent : Int) first most oct ({ t with place := (pl : Int) + 1, force := true } : SdT)) side0 (by rfl) (by rfl) hR (by rfl) (by rfl) (sdc_one _ _ _ _ _ _ _ _) ?_
      refine any_one 3 (by kernel_rfl) ?_
      refine wpOp_unit_store (by rfl) (by rfl) (by rfl) (.tmp 3) (.tmp 75) (by rfl) (w.heap.size + 1 + 1) (ucs t.last M t.bib t.fib 2 (.slice va x.length vc)) unit0 (by rfl) (by rfl) hU5 (by rfl) (by rfl) (ucs_one _ _ _ _ _ _ _ _) ?_
      refine ⟨by kernel_rfl, ?_⟩
      go_wp2
      refine bodyPost_ret (res_two Try.results87 (by rfl) hRes rfl (by rfl) (Blk.row hU5 _) rfl) rfl ⟨_, HV.out, rfl, ?_⟩
      exact below_row (below_row hb (by omega) _) (by omega) _
    · refine wpOp_side_store (by rfl) (by rfl) (by rfl) (.tmp 2) (.tmp 74) (by rfl) (w.heap.size + 1) (sdc (.slice (some ⟨g, off, none⟩) n c) (sent : Int) first most oct ({ t with place := (pl : Int) + 1, force := true } : SdT)) side0 (by rfl) (by rfl) hR (by rfl) (by rfl) (sdc_one _ _ _ _ _ _ _ _) ?_
      refine any_one 1 (by kernel_rfl) ?_
      refine wpOp_value 75 (by rfl) (by rfl) (by rfl) (run_unit_load (.tmp 7) (by rfl) b7 (by rfl) _ hB10 (by rfl)) ?_
      refine any_one 3 (by kernel_rfl) ?_
      refine wpOp_unit_store (by rfl) (by rfl) (by rfl) (.tmp 3) (.tmp 75) (by rfl) (w.heap.size + 1 + 1) (ucs t.last M t.bib t.fib 2 (.slice va x.length vc)) unit0 (by rfl) (by rfl) hU5 (by rfl) (by rfl) (ucs_one _ _ _ _ _ _ _ _) ?_
      refine ⟨by kernel_rfl, ?_⟩
      go_wp2
      refine bodyPost_ret (res_two Try.results87 (by rfl) hRes rfl (by rfl) (Blk.row hU5 _) rfl) rfl ⟨_, HV.out, rfl, ?_⟩
      exact below_row (below_row hb (by omega) _) (by omega) _
  · refine wpOp_value 75 (by rfl) (by rfl) (by rfl) (run_unit_load (.tmp 7) (by rfl) b7 (by rfl) _ hB9 (by rfl)) ?_
    refine any_one 0 (by kernel_rfl) ?_
    refine wpOp_value 74 (by rfl) (by rfl) (by rfl) (run_side_load (.tmp 1) (by rfl) w.heap.size (by rfl) _ hS (by rfl)) ?_
    refine any_one 2 (by kernel_rfl) ?_
    refine wpOp_side_store (by rfl) (by rfl) (by rfl) (.tmp 2) (.tmp 74) (by rfl) (w.heap.size + 1) (sdc (.slice (some ⟨g, off, none⟩) n c) (sent : Int) first most oct ({ t with place := (pl : Int) + 1, force := true } : SdT)) side0 (by rfl) (by rfl) hR (by rfl) (by rfl) (sdc_one _ _ _ _ _ _ _ _) ?_
    refine any_one 3 (by kernel_rfl) ?_
    refine wpOp_unit_store (by rfl) (by rfl) (by rfl) (.tmp 3) (.tmp 75) (by rfl) (w.heap.size + 1 + 1) (ucs t.last M t.bib t.fib 2 (.slice va x.length vc)) unit0 (by rfl) (by rfl) hU5 (by rfl) (by rfl) (ucs_one _ _ _ _ _ _ _ _) ?_
    refine ⟨by kernel_rfl, ?_⟩
    go_wp2
    refine bodyPost_ret (res_two Try.results87 (by rfl) hRes rfl (by rfl) (Blk.row hU5 _) rfl) rfl ⟨_, HV.out, rfl, ?_⟩
    exact below_row (below_row hb (by omega) _) (by omega) _
set_option maxHeartbeats 4000000 in
set_option maxRecDepth 100000 in
theorem ragain_BQ {W w : World} {vL : Value} {L : List (List Int)} (hL : RR W w vL L) (sent pl : Nat) (first most oct : Int) (t : SdT) (hpl : t.place = (pl : Int)) (hpb : pl ≤ 1000) (hsl : sent ≤ L.length) (hn : L.length ≤ 1000) (h3 : ∀ x ∈ L, x.length ≤ 300) (hl : 0 ≤ t.last ∧ t.last ≤ 255) (hf : 0 ≤ first ∧ first ≤ 127) (hs : sent < L.length) (hfit : fitsR sent t.n1 t.n2 L = false) (hps : sent ≤ pl) (hs0 : 0 < sent) (x : List Int) (hx : L[0]? = some x) :
    Calls Try.prog 87 #[.agg (sdc vL sent first most oct t).toArray] w fun e w' => ∃ v, Oct W v x ∧ e = .returned (.tuple #[.agg (sdc vL sent first most oct { t with place := 0 + 1, force := true }).toArray, .agg (ucs t.last ((first + 0) % 128) t.bib t.fib 2 v).toArray]) ∧ Below w.heap.size w w' := by
  obtain ⟨g, off, c, v, rfl, hc, hv⟩ := hL.msg 0 x hx
  have hcap := hL.len
  have hv0 := hv
  obtain ⟨va, vc, rfl, -⟩ := hv
  have HV := Lib.hid hv0
  have hil : 0 < L.length := (List.getElem?_eq_some_iff.1 hx).1
  obtain ⟨X, hX, hS, hR, hU, hb⟩ := side_two w (sdc (.slice (some ⟨g, off, none⟩) L.length c) sent first most oct t)
  have hfi := fun w' (hb' : Below w.heap.size w w') (t' : SdT) => rfits (hL.below hb') sent first most oct t' hs hn h3
  have hmsg := fun w' (hb' : Below w.heap.size w w') (t' : SdT) (hl' : 0 ≤ t'.last ∧ t'.last ≤ 255) => rmsg g off L.length c va x.length vc w' (sent : Int) first most oct t' 0 hil ⟨hcap.2.1, hcap.2.2⟩ ((hb'.cell (World.block_lt_of_cell? _ _ hc)).trans hc) hl' hf hn
  have hfi1 := fun w' (hb' : Below w.heap.size w w') (t' : SdT) (e1 : t'.n1 = t.n1) (e2 : t'.n2 = t.n2) => (by have := hfi w' hb' t'; rw [e1, e2, hfit] at this; exact this : Calls Try.prog 93 #[.agg (sdc (.slice (some ⟨g, off, none⟩) L.length c) sent first most oct t').toArray] w' fun e w'' => e = .returned (.bool false) ∧ Below w'.heap.size w' w'')
  obtain ⟨n, hnn⟩ : ∃ n, L.length = n := ⟨_, rfl⟩
  rw [hnn] at hX hS hs hn hfi1 hmsg ⊢
  have hsi : (sent : Int) < (n : Int) := by omega
  obtain ⟨M, hM⟩ : ∃ M, (first + ((0 : Nat) : Int)) % 128 = M := ⟨_, rfl⟩
  rw [hM] at hmsg
  have hM' : (first + 0) % 128 = M := hM
  rw [hM']
  have HPL := Lib.hid hpl
  clear hpl
  have c0 := hS.cell 0 rfl
  have c1 := hS.cell 1 rfl
  have hpl0 : ¬ ((pl : Int) < 0) := by omega
  have hps2 : (sent : Int) ≤ (pl : Int) := by omega
  have hps3 : ¬ (sent : Int) ≤ 0 := by omega
  have hw1 : IntKind.i64.wrap (1 : Int) = 1 := wrapH _ (by omega)
  clear hL hc hv0 hx hfi hfit h3 hnn hM hcap hsl
  go_enter Try.func87, Try.ntmps87
  go_upto_region 1 with fail
  rw [← hX]
  clear hX
  go_wp2_with (first | (refine wpList_side_load_g (.tmp 1) (by rfl) (by rfl) w.heap.size (by rfl) _ hS (by rfl) ?_) | (refine wpList_side_load rfl (.tmp 1) rfl w.heap.size rfl _ hS rfl ?_))
  refine (hfi1 X hb t rfl rfl).mono ?_
  rintro e X1 ⟨rfl, hbq⟩
  have hb1 := bthen hb hbq
  have hS1 := hS.below hbq
  have hR1 := hR.below hbq
  have hU1 := hU.below hbq
  clear hS hR hU hb hbq c0 c1
  have hb := hb1
  have hS := hS1
  have hR := hR1
  have hU := hU1
  clear hb1 hS1 hR1 hU1
  have c13 := hS.cell 13 rfl
  have f13 := hS.frozen 13
  go_upto_region 4 with fail
  clear c13 f13
  have hbX2 := hb.setCell (p := ⟨w.heap.size, 13, none⟩) (Nat.le_refl _) (.bool true)
  have hSX2 := (hS.set 13 (.bool true)).as (show _ = sdc (.slice (some ⟨g, off, none⟩) n c) sent first most oct { t with force := true } from rfl)
  have hRX2 := hR.other (a := ⟨w.heap.size, 13, none⟩) (by show w.heap.size + 1 ≠ w.heap.size; omega) (.bool true)
  have hUX2 := hU.other (a := ⟨w.heap.size, 13, none⟩) (by show w.heap.size + 1 + 1 ≠ w.heap.size; omega) (.bool true)
  clear hS hR hU hb
  generalize X1.setCell ⟨w.heap.size, 13, none⟩ (.bool true) = X2 at *
  have hb := hbX2
  have hS := hSX2
  have hR := hRX2
  have hU := hUX2
  clear hbX2 hSX2 hRX2 hUX2
  have c13 := hS.cell 13 rfl
  have c1 := hS.cell 1 rfl
  have c12 := hS.cell 12 rfl
  replace c12 := c12.trans (show _ = some (Value.int .i64 (pl : Int)) from by rw [← HPL.out])
  have f12 := hS.frozen 12
  go_upto_region 10 with fail
  clear c12 f12 c1 c13
  have hbX3 := hb.setCell (p := ⟨w.heap.size, 12, none⟩) (Nat.le_refl _) (.int .i64 0)
  have hSX3 := (hS.set 12 (.int .i64 0)).as (show _ = sdc (.slice (some ⟨g, off, none⟩) n c) sent first most oct { t with place := 0, force := true } from rfl)
  have hRX3 := hR.other (a := ⟨w.heap.size, 12, none⟩) (by show w.heap.size + 1 ≠ w.heap.size; omega) (.int .i64 0)
  have hUX3 := hU.other (a := ⟨w.heap.size, 12, none⟩) (by show w.heap.size + 1 + 1 ≠ w.heap.size; omega) (.int .i64 0)
  clear hS hR hU hb
  generalize X2.setCell ⟨w.heap.size, 12, none⟩ (.int .i64 0) = X3 at *
  have hb := hbX3
  have hS := hSX3
  have hR := hRX3
  have hU := hUX3
  clear hbX3 hSX3 hRX3 hUX3
  have c13 := hS.cell 13 rfl
  have f13 := hS.frozen 13
  go_wp2_with (first | (refine wpList_side_load_g (.tmp 1) (by rfl) (by rfl) w.heap.size (by rfl) _ hS (by rfl) ?_) | (refine wpList_side_load rfl (.tmp 1) rfl w.heap.size rfl _ hS rfl ?_))
  refine (hfi1 X3 hb ({ t with place := 0, force := true } : SdT) rfl rfl).mono ?_
  rintro e X4 ⟨rfl, hbq⟩
  have hb1 := bthen hb hbq
  have hS1 := hS.below hbq
  have hR1 := hR.below hbq
  have hU1 := hU.below hbq
  clear hS hR hU hb hbq c13 f13
  have hb := hb1
  have hS := hS1
  have hR := hR1
  have hU := hU1
  clear hb1 hS1 hR1 hU1
  have c13 := hS.cell 13 rfl
  have f13 := hS.frozen 13
  go_upto_region 11 with fail
  clear c13 f13
  have hbX5 := hb.setCell (p := ⟨w.heap.size, 13, none⟩) (Nat.le_refl _) (.bool true)
  have hSX5 := (hS.set 13 (.bool true)).as (show _ = sdc (.slice (some ⟨g, off, none⟩) n c) sent first most oct { t with place := 0, force := true } from rfl)
  have hRX5 := hR.other (a := ⟨w.heap.size, 13, none⟩) (by show w.heap.size + 1 ≠ w.heap.size; omega) (.bool true)
  have hUX5 := hU.other (a := ⟨w.heap.size, 13, none⟩) (by show w.heap.size + 1 + 1 ≠ w.heap.size; omega) (.bool true)
  clear hS hR hU hb
  generalize X4.setCell ⟨w.heap.size, 13, none⟩ (.bool true) = X5 at *
  have hb := hbX5
  have hS := hSX5
  have hR := hRX5
  have hU := hUX5
  clear hbX5 hSX5 hRX5 hUX5
  have c12 := hS.cell 12 rfl
  have c1 := hS.cell 1 rfl
  have hmg : Calls Try.prog 88 #[.agg (sdc (.slice (some ⟨g, off, none⟩) n c) (sent : Int) first most oct ({ t with place := 0, force := true } : SdT)).toArray, .int .i64 (0)] X5 fun e w'' => e = .returned (.agg (ucs t.last M t.bib t.fib 2 (.slice va x.length vc)).toArray) ∧ Below X5.heap.size X5 w'' := hmsg X5 hb ({ t with place := 0, force := true } : SdT) hl
  clear hmsg
  go_upto_region 13 with fail
  go_wp2_with (first | (refine wpList_side_load_g (.tmp 1) (by rfl) (by rfl) w.heap.size (by rfl) _ hS (by rfl) ?_) | (refine wpList_side_load rfl (.tmp 1) rfl w.heap.size rfl _ hS rfl ?_))
  refine hmg.mono ?_
  rintro e X6 ⟨rfl, hbq⟩
  have hb1 := bthen hb hbq
  have hS1 := hS.below hbq
  have hR1 := hR.below hbq
  have hU1 := hU.below hbq
  clear hS hR hU hb
  have hb := hb1
  have hS := hS1
  have hR := hR1
  have hU := hU1
  clear hb1 hS1 hR1 hU1
  obtain ⟨X7, hX7, hB7, hb7⟩ := unit_box X6 (ucs t.last M t.bib t.fib 2 (.slice va x.length vc))
  have hR0 := Blk.new X6 unit0 69
  have hlt := hS.lt
  have hltU := hU.lt
  clear hmg hbq c1 c12
  go_upto_region 14 with (refine wpList_unit_store rfl (.tmp 7) (.tmp 69) rfl X6.heap.size (ucs t.last M t.bib t.fib 2 (.slice va x.length vc)) unit0 rfl rfl hR0 rfl rfl (ucs_one _ _ _ _ _ _ _ _) ?_)
  rw [← hX7]
  clear hX7 hR0
  have hb1 := bthen hb hb7
  have hS1 := hS.below hb7
  have hR1 := hR.below hb7
  have hU1 := hU.below hb7
  clear hS hR hU hb
  have hb := hb1
  have hS := hS1
  have hR := hR1
  have hU := hU1
  clear hb1 hS1 hR1 hU1
  clear hb7
  have c12 := hS.cell 12 rfl
  have f12 := hS.frozen 12
  go_upto_region 15 with fail
  clear c12 f12
  have hB8 := hB7.other (a := ⟨w.heap.size, 12, none⟩) (by show X6.heap.size ≠ w.heap.size; omega) (.int .i64 1)
  have hne1 : X6.heap.size ≠ w.heap.size + 1 := by omega
  clear hB7
  have hbX8 := hb.setCell (p := ⟨w.heap.size, 12, none⟩) (Nat.le_refl _) (.int .i64 1)
  have hSX8 := (hS.set 12 (.int .i64 1)).as (show _ = sdc (.slice (some ⟨g, off, none⟩) n c) sent first most oct { t with place := 1, force := true } from rfl)
  have hRX8 := hR.other (a := ⟨w.heap.size, 12, none⟩) (by show w.heap.size + 1 ≠ w.heap.size; omega) (.int .i64 1)
  have hUX8 := hU.other (a := ⟨w.heap.size, 12, none⟩) (by show w.heap.size + 1 + 1 ≠ w.heap.size; omega) (.int .i64 1)
  clear hS hR hU hb
  generalize X7.setCell ⟨w.heap.size, 12, none⟩ (.int .i64 1) = X8 at *
  have hb := hbX8
  have hS := hSX8
  have hR := hRX8
  have hU := hUX8
  clear hbX8 hSX8 hRX8 hUX8
  generalize X6.heap.size = b7 at *
  refine wp_region_any (by kernel_rfl) ?_
  change wpAny Try.prog .any _ _ 4 (Array.replicate 4 false) _ _
  obtain ⟨X9, hX9⟩ : ∃ X9 : World, { X8 with drawn := X8.drawn + 1 } = X9 := ⟨_, rfl⟩
  have hb9 : Below X8.heap.size X8 X9 := by rw [← hX9]; exact ⟨rfl, rfl, rfl, Nat.le_refl _, fun _ _ => rfl⟩
  rw [hX9]
  have hB9 := hB8.below hb9
  have hb1 := bthen hb hb9
  have hS1 := hS.below hb9
  have hR1 := hR.below hb9
  have hU1 := hU.below hb9
  clear hS hR hU hb
  have hb := hb1
  have hS := hS1
  have hR := hR1
  have hU := hU1
  clear hb1 hS1 hR1 hU1
  clear hb9 hB8 hX9
  have hU5 := hU.fr (Fr.row1 X9 (w.heap.size + 1) (sdc (.slice (some ⟨g, off, none⟩) n c) (sent : Int) first most oct ({ t with place := 1, force := true } : SdT)).toArray) (fun e => by omega)
  have hB10 := hB9.fr (Fr.row1 X9 (w.heap.size + 1) (sdc (.slice (some ⟨g, off, none⟩) n c) (sent : Int) first most oct ({ t with place := 1, force := true } : SdT)).toArray) (fun e => by omega)
  have hRes := (Blk.row hR (sdc (.slice (some ⟨g, off, none⟩) n c) (sent : Int) first most oct ({ t with place := 1, force := true } : SdT))).fr (Fr.row1 (X9.setRow (w.heap.size + 1) (sdc (.slice (some ⟨g, off, none⟩) n c) (sent : Int) first most oct ({ t with place := 1, force := true } : SdT)).toArray) (w.heap.size + 1 + 1) (ucs t.last M t.bib t.fib 2 (.slice va x.length vc)).toArray) (fun e => by omega)
  refine any_two 0 1 (by kernel_rfl) ?_ ?_
  · refine wpOp_value 74 (by rfl) (by rfl) (by rfl) (run_side_load (.tmp 1) (by rfl) w.heap.size (by rfl) _ hS (by rfl)) ?_
    refine any_two 1 2 (by kernel_rfl) ?_ ?_
    · refine wpOp_value 75 (by rfl) (by rfl) (by rfl) (run_unit_load (.tmp 7) (by rfl) b7 (by rfl) _ hB9 (by rfl)) ?_
      refine any_one 2 (by kernel_rfl) ?_
      refine wpOp_side_store (by rfl) (by rfl) (by rfl) (.tmp 2) (.tmp 74) (by rfl) (w.heap.size + 1) (sdc (.slice (some ⟨g, off, none⟩) n c) (sent : Int) first most oct ({ t with place := 1, force := true } : SdT)) side0 (by rfl) (by rfl) hR (by rfl) (by rfl) (sdc_one _ _ _ _ _ _ _ _) ?_
      refine any_one 3 (by kernel_rfl) ?_
      refine wpOp_unit_store (by rfl) (by rfl) (by rfl) (.tmp 3) (.tmp 75) (by rfl) (w.heap.size + 1 + 1) (ucs t.last M t.bib t.fib 2 (.slice va x.length vc)) unit0 (by rfl) (by rfl) hU5 (by rfl) (by rfl) (ucs_one _ _ _ _ _ _ _ _) ?_
      refine ⟨by kernel_rfl, ?_⟩
      go_wp2
      refine bodyPost_ret (res_two Try.results87 (by rfl) hRes rfl (by rfl) (Blk.row hU5 _) rfl) rfl ⟨_, HV.out, rfl, ?_⟩
      exact below_row (below_row hb (by omega) _) (by omega) _
    · refine wpOp_side_store (by rfl) (by rfl) (by rfl) (.tmp 2) (.tmp 74) (by rfl) (w.heap.size + 1) (sdc (.slice (some ⟨g, off, none⟩) n c) (sent : Int) first most oct ({ t with place := 1, force := true } : SdT)) side0 (by rfl) (by rfl) hR (by rfl) (by rfl) (sdc_one _ _ _ _ _ _ _ _) ?_
      refine any_one 1 (by kernel_rfl) ?_
      refine wpOp_value 75 (by rfl) (by rfl) (by rfl) (run_unit_load (.tmp 7) (by rfl) b7 (by rfl) _ hB10 (by rfl)) ?_
      refine any_one 3 (by kernel_rfl) ?_
      refine wpOp_unit_store (by rfl) (by rfl) (by rfl) (.tmp 3) (.tmp 75) (by rfl) (w.heap.size + 1 + 1) (ucs t.last M t.bib t.fib 2 (.slice va x.length vc)) unit0 (by rfl) (by rfl) hU5 (by rfl) (by rfl) (ucs_one _ _ _ _ _ _ _ _) ?_
      refine ⟨by kernel_rfl, ?_⟩
      go_wp2
      refine bodyPost_ret (res_two Try.results87 (by rfl) hRes rfl (by rfl) (Blk.row hU5 _) rfl) rfl ⟨_, HV.out, rfl, ?_⟩
      exact below_row (below_row hb (by omega) _) (by omega) _
  · refine wpOp_value 75 (by rfl) (by rfl) (by rfl) (run_unit_load (.tmp 7) (by rfl) b7 (by rfl) _ hB9 (by rfl)) ?_
    refine any_one 0 (by kernel_rfl) ?_
    refine wpOp_value 74 (by rfl) (by rfl) (by rfl) (run_side_load (.tmp 1) (by rfl) w.heap.size (by rfl) _ hS (by rfl)) ?_
    refine any_one 2 (by kernel_rfl) ?_
    refine wpOp_side_store (by rfl) (by rfl) (by rfl) (.tmp 2) (.tmp 74) (by rfl) (w.heap.size + 1) (sdc (.slice (some ⟨g, off, none⟩) n c) (sent : Int) first most oct ({ t with place := 1, force := true } : SdT)) side0 (by rfl) (by rfl) hR (by rfl) (by rfl) (sdc_one _ _ _ _ _ _ _ _) ?_
    refine any_one 3 (by kernel_rfl) ?_
    refine wpOp_unit_store (by rfl) (by rfl) (by rfl) (.tmp 3) (.tmp 75) (by rfl) (w.heap.size + 1 + 1) (ucs t.last M t.bib t.fib 2 (.slice va x.length vc)) unit0 (by rfl) (by rfl) hU5 (by rfl) (by rfl) (ucs_one _ _ _ _ _ _ _ _) ?_
    refine ⟨by kernel_rfl, ?_⟩
    go_wp2
    refine bodyPost_ret (res_two Try.results87 (by rfl) hRes rfl (by rfl) (Blk.row hU5 _) rfl) rfl ⟨_, HV.out, rfl, ?_⟩
    exact below_row (below_row hb (by omega) _) (by omega) _
set_option maxHeartbeats 4000000 in
set_option maxRecDepth 100000 in
theorem ragain_CP {W w : World} {vL : Value} {L : List (List Int)} (hL : RR W w vL L) (sent pl : Nat) (first most oct : Int) (t : SdT) (hpl : t.place = (pl : Int)) (hpb : pl ≤ 1000) (hsl : sent ≤ L.length) (hn : L.length ≤ 1000) (h3 : ∀ x ∈ L, x.length ≤ 300) (hl : 0 ≤ t.last ∧ t.last ≤ 255) (hf : 0 ≤ first ∧ first ≤ 127) (hs : sent < L.length) (hfit : fitsR sent t.n1 t.n2 L = true) (hfo : t.force = true) (hps : pl < sent) (x : List Int) (hx : L[pl]? = some x) :
    Calls Try.prog 87 #[.agg (sdc vL sent first most oct t).toArray] w fun e w' => ∃ v, Oct W v x ∧ e = .returned (.tuple #[.agg (sdc vL sent first most oct { t with place := (pl : Int) + 1 }).toArray, .agg (ucs t.last ((first + (pl : Int)) % 128) t.bib t.fib 2 v).toArray]) ∧ Below w.heap.size w w' := by
  obtain ⟨g, off, c, v, rfl, hc, hv⟩ := hL.msg pl x hx
  have hcap := hL.len
  have hv0 := hv
  obtain ⟨va, vc, rfl, -⟩ := hv
  have HV := Lib.hid hv0
  have hil : pl < L.length := (List.getElem?_eq_some_iff.1 hx).1
  obtain ⟨X, hX, hS, hR, hU, hb⟩ := side_two w (sdc (.slice (some ⟨g, off, none⟩) L.length c) sent first most oct t)
  have hfi := fun w' (hb' : Below w.heap.size w w') (t' : SdT) => rfits (hL.below hb') sent first most oct t' hs hn h3
  have hmsg := fun w' (hb' : Below w.heap.size w w') (t' : SdT) (hl' : 0 ≤ t'.last ∧ t'.last ≤ 255) => rmsg g off L.length c va x.length vc w' (sent : Int) first most oct t' pl hil ⟨hcap.2.1, hcap.2.2⟩ ((hb'.cell (World.block_lt_of_cell? _ _ hc)).trans hc) hl' hf hn
  have hfi1 := fun w' (hb' : Below w.heap.size w w') (t' : SdT) (e1 : t'.n1 = t.n1) (e2 : t'.n2 = t.n2) => (by have := hfi w' hb' t'; rw [e1, e2, hfit] at this; exact this : Calls Try.prog 93 #[.agg (sdc (.slice (some ⟨g, off, none⟩) L.length c) sent first most oct t').toArray] w' fun e w'' => e = .returned (.bool true) ∧ Below w'.heap.size w' w'')
  obtain ⟨n, hnn⟩ : ∃ n, L.length = n := ⟨_, rfl⟩
  rw [hnn] at hX hS hs hn hfi1 hmsg ⊢
  have hsi : (sent : Int) < (n : Int) := by omega
  obtain ⟨M, hM⟩ : ∃ M, (first + ((pl : Nat) : Int)) % 128 = M := ⟨_, rfl⟩
  rw [hM] at hmsg
  have hM' : (first + (pl : Int)) % 128 = M := hM
  rw [hM']
  have HPL := Lib.hid hpl
  have HFO := Lib.hid hfo
  clear hpl hfo
  have c0 := hS.cell 0 rfl
  have c1 := hS.cell 1 rfl
  have hpl0 : ¬ ((pl : Int) < 0) := by omega
  have hps2 : ¬ (sent : Int) ≤ (pl : Int) := by omega
  have hw1 : IntKind.i64.wrap ((pl : Int) + 1) = (pl : Int) + 1 := wrapH _ (by omega)
  clear hL hc hv0 hx hfi hfit h3 hnn hM hcap hsl
  go_enter Try.func87, Try.ntmps87
  go_upto_region 1 with fail
  rw [← hX]
  clear hX
  go_wp2_with (first | (refine wpList_side_load_g (.tmp 1) (by rfl) (by rfl) w.heap.size (by rfl) _ hS (by rfl) ?_) | (refine wpList_side_load rfl (.tmp 1) rfl w.heap.size rfl _ hS rfl ?_))
  refine (hfi1 X hb t rfl rfl).mono ?_
  rintro e X1 ⟨rfl, hbq⟩
  have hb1 := bthen hb hbq
  have hS1 := hS.below hbq
  have hR1 := hR.below hbq
  have hU1 := hU.below hbq
  clear hS hR hU hb hbq c0 c1
  have hb := hb1
  have hS := hS1
  have hR := hR1
  have hU := hU1
  clear hb1 hS1 hR1 hU1
  have c13 := hS.cell 13 rfl
  rw [HFO.out] at c13
  have c1 := hS.cell 1 rfl
  have c12 := hS.cell 12 rfl
  rw [show (t.place) = (pl : Int) from HPL.out] at c12
  go_upto_region 11 with fail
  have hmg : Calls Try.prog 88 #[.agg (sdc (.slice (some ⟨g, off, none⟩) n c) (sent : Int) first most oct (t : SdT)).toArray, .int .i64 ((pl : Int))] X1 fun e w'' => e = .returned (.agg (ucs t.last M t.bib t.fib 2 (.slice va x.length vc)).toArray) ∧ Below X1.heap.size X1 w'' := hmsg X1 hb (t : SdT) hl
  clear hmsg
  go_upto_region 13 with fail
  go_wp2_with (first | (refine wpList_side_load_g (.tmp 1) (by rfl) (by rfl) w.heap.size (by rfl) _ hS (by rfl) ?_) | (refine wpList_side_load rfl (.tmp 1) rfl w.heap.size rfl _ hS rfl ?_))
  refine hmg.mono ?_
  rintro e X6 ⟨rfl, hbq⟩
  have hb1 := bthen hb hbq
  have hS1 := hS.below hbq
  have hR1 := hR.below hbq
  have hU1 := hU.below hbq
  clear hS hR hU hb
  have hb := hb1
  have hS := hS1
  have hR := hR1
  have hU := hU1
  clear hb1 hS1 hR1 hU1
  obtain ⟨X7, hX7, hB7, hb7⟩ := unit_box X6 (ucs t.last M t.bib t.fib 2 (.slice va x.length vc))
  have hR0 := Blk.new X6 unit0 69
  have hlt := hS.lt
  have hltU := hU.lt
  clear hmg hbq c1 c12
  go_upto_region 14 with (refine wpList_unit_store rfl (.tmp 7) (.tmp 69) rfl X6.heap.size (ucs t.last M t.bib t.fib 2 (.slice va x.length vc)) unit0 rfl rfl hR0 rfl rfl (ucs_one _ _ _ _ _ _ _ _) ?_)
  rw [← hX7]
  clear hX7 hR0
  have hb1 := bthen hb hb7
  have hS1 := hS.below hb7
  have hR1 := hR.below hb7
  have hU1 := hU.below hb7
  clear hS hR hU hb
  have hb := hb1
  have hS := hS1
  have hR := hR1
  have hU := hU1
  clear hb1 hS1 hR1 hU1
  clear hb7
  have c12 := hS.cell 12 rfl
  replace c12 := c12.trans (show _ = some (Value.int .i64 (pl : Int)) from by rw [← HPL.out])
  have f12 := hS.frozen 12
  go_upto_region 15 with fail
  clear c12 f12
  have hB8 := hB7.other (a := ⟨w.heap.size, 12, none⟩) (by show X6.heap.size ≠ w.heap.size; omega) (.int .i64 ((pl : Int) + 1))
  have hne1 : X6.heap.size ≠ w.heap.size + 1 := by omega
  clear hB7
  have hbX8 := hb.setCell (p := ⟨w.heap.size, 12, none⟩) (Nat.le_refl _) (.int .i64 ((pl : Int) + 1))
  have hSX8 := (hS.set 12 (.int .i64 ((pl : Int) + 1))).as (show _ = sdc (.slice (some ⟨g, off, none⟩) n c) sent first most oct { t with place := (pl : Int) + 1 } from rfl)
  have hRX8 := hR.other (a := ⟨w.heap.size, 12, none⟩) (by show w.heap.size + 1 ≠ w.heap.size; omega) (.int .i64 ((pl : Int) + 1))
  have hUX8 := hU.other (a := ⟨w.heap.size, 12, none⟩) (by show w.heap.size + 1 + 1 ≠ w.heap.size; omega) (.int .i64 ((pl : Int) + 1))
  clear hS hR hU hb
  generalize X7.setCell ⟨w.heap.size, 12, none⟩ (.int .i64 ((pl : Int) + 1)) = X8 at *
  have hb := hbX8
  have hS := hSX8
  have hR := hRX8
  have hU := hUX8
  clear hbX8 hSX8 hRX8 hUX8
  generalize X6.heap.size = b7 at *
  refine wp_region_any (by kernel_rfl) ?_
  change wpAny Try.prog .any _ _ 4 (Array.replicate 4 false) _ _
  obtain ⟨X9, hX9⟩ : ∃ X9 : World, { X8 with drawn := X8.drawn + 1 } = X9 := ⟨_, rfl⟩
  have hb9 : Below X8.heap.size X8 X9 := by rw [← hX9]; exact ⟨rfl, rfl, rfl, Nat.le_refl _, fun _ _ => rfl⟩
  rw [hX9]
  have hB9 := hB8.below hb9
  have hb1 := bthen hb hb9
  have hS1 := hS.below hb9
  have hR1 := hR.below hb9
  have hU1 := hU.below hb9
  clear hS hR hU hb
  have hb := hb1
  have hS := hS1
  have hR := hR1
  have hU := hU1
  clear hb1 hS1 hR1 hU1
  clear hb9 hB8 hX9
  have hU5 := hU.fr (Fr.row1 X9 (w.heap.size + 1) (sdc (.slice (some ⟨g, off, none⟩) n c) (sent : Int) first most oct ({ t with place := (pl : Int) + 1 } : SdT)).toArray) (fun e => by omega)
  have hB10 := hB9.fr (Fr.row1 X9 (w.heap.size + 1) (sdc (.slice (some ⟨g, off, none⟩) n c) (sent : Int) first most oct ({ t with place := (pl : Int) + 1 } : SdT)).toArray) (fun e => by omega)
  have hRes := (Blk.row hR (sdc (.slice (some ⟨g, off, none⟩) n c) (sent : Int) first most oct ({ t with place := (pl : Int) + 1 } : SdT))).fr (Fr.row1 (X9.setRow (w.heap.size + 1) (sdc (.slice (some ⟨g, off, none⟩) n c) (sent : Int) first most oct ({ t with place := (pl : Int) + 1 } : SdT)).toArray) (w.heap.size + 1 + 1) (ucs t.last M t.bib t.fib 2 (.slice va x.length vc)).toArray) (fun e => by omega)
  refine any_two 0 1 (by kernel_rfl) ?_ ?_
  · refine wpOp_value 74 (by rfl) (by rfl) (by rfl) (run_side_load (.tmp 1) (by rfl) w.heap.size (by rfl) _ hS (by rfl)) ?_
    refine any_two 1 2 (by kernel_rfl) ?_ ?_
    · refine wpOp_value 75 (by rfl) (by rfl) (by rfl) (run_unit_load (.tmp 7) (by rfl) b7 (by rfl) _ hB9 (by rfl)) ?_
      refine any_one 2 (by kernel_rfl) ?_
      refine wpOp_side_store (by rfl) (by rfl) (by rfl) (.tmp 2) (.tmp 74) (by rfl) (w.heap.size + 1) (sdc (.slice (some ⟨g, off, none⟩) n c) (sent : Int) first most oct ({ t with place := (pl : Int) + 1 } : SdT)) side0 (by rfl) (by rfl) hR (by rfl) (by rfl) (sdc_one _ _ _ _ _ _ _ _) ?_
      refine any_one 3 (by kernel_rfl) ?_
      refine wpOp_unit_store (by rfl) (by rfl) (by rfl) (.tmp 3) (.tmp 75) (by rfl) (w.heap.size + 1 + 1) (ucs t.last M t.bib t.fib 2 (.slice va x.length vc)) unit0 (by rfl) (by rfl) hU5 (by rfl) (by rfl) (ucs_one _ _ _ _ _ _ _ _) ?_
      refine ⟨by kernel_rfl, ?_⟩
      go_wp2
      refine bodyPost_ret (res_two Try.results87 (by rfl) hRes rfl (by rfl) (Blk.row hU5 _) rfl) rfl ⟨_, HV.out, rfl, ?_⟩
      exact below_row (below_row hb (by omega) _) (by omega) _
    · refine wpOp_side_store (by rfl) (by rfl) (by rfl) (.tmp 2) (.tmp 74) (by rfl) (w.heap.size + 1) (sdc (.slice (some ⟨g, off, none⟩) n c) (sent : Int) first most oct ({ t with place := (pl : Int) + 1 } : SdT)) side0 (by rfl) (by rfl) hR (by rfl) (by rfl) (sdc_one _ _ _ _ _ _ _ _) ?_
      refine any_one 1 (by kernel_rfl) ?_
      refine wpOp_value 75 (by rfl) (by rfl) (by rfl) (run_unit_load (.tmp 7) (by rfl) b7 (by rfl) _ hB10 (by rfl)) ?_
      refine any_one 3 (by kernel_rfl) ?_
      refine wpOp_unit_store (by rfl) (by rfl) (by rfl) (.tmp 3) (.tmp 75) (by rfl) (w.heap.size + 1 + 1) (ucs t.last M t.bib t.fib 2 (.slice va x.length vc)) unit0 (by rfl) (by rfl) hU5 (by rfl) (by rfl) (ucs_one _ _ _ _ _ _ _ _) ?_
      refine ⟨by kernel_rfl, ?_⟩
      go_wp2
      refine bodyPost_ret (res_two Try.results87 (by rfl) hRes rfl (by rfl) (Blk.row hU5 _) rfl) rfl ⟨_, HV.out, rfl, ?_⟩
      exact below_row (below_row hb (by omega) _) (by omega) _
  · refine wpOp_value 75 (by rfl) (by rfl) (by rfl) (run_unit_load (.tmp 7) (by rfl) b7 (by rfl) _ hB9 (by rfl)) ?_
    refine any_one 0 (by kernel_rfl) ?_
    refine wpOp_value 74 (by rfl) (by rfl) (by rfl) (run_side_load (.tmp 1) (by rfl) w.heap.size (by rfl) _ hS (by rfl)) ?_
    refine any_one 2 (by kernel_rfl) ?_
    refine wpOp_side_store (by rfl) (by rfl) (by rfl) (.tmp 2) (.tmp 74) (by rfl) (w.heap.size + 1) (sdc (.slice (some ⟨g, off, none⟩) n c) (sent : Int) first most oct ({ t with place := (pl : Int) + 1 } : SdT)) side0 (by rfl) (by rfl) hR (by rfl) (by rfl) (sdc_one _ _ _ _ _ _ _ _) ?_
    refine any_one 3 (by kernel_rfl) ?_
    refine wpOp_unit_store (by rfl) (by rfl) (by rfl) (.tmp 3) (.tmp 75) (by rfl) (w.heap.size + 1 + 1) (ucs t.last M t.bib t.fib 2 (.slice va x.length vc)) unit0 (by rfl) (by rfl) hU5 (by rfl) (by rfl) (ucs_one _ _ _ _ _ _ _ _) ?_
    refine ⟨by kernel_rfl, ?_⟩
    go_wp2
    refine bodyPost_ret (res_two Try.results87 (by rfl) hRes rfl (by rfl) (Blk.row hU5 _) rfl) rfl ⟨_, HV.out, rfl, ?_⟩
    exact below_row (below_row hb (by omega) _) (by omega) _
set_option maxHeartbeats 4000000 in
set_option maxRecDepth 100000 in
theorem ragain_CQ {W w : World} {vL : Value} {L : List (List Int)} (hL : RR W w vL L) (sent pl : Nat) (first most oct : Int) (t : SdT) (hpl : t.place = (pl : Int)) (hpb : pl ≤ 1000) (hsl : sent ≤ L.length) (hn : L.length ≤ 1000) (h3 : ∀ x ∈ L, x.length ≤ 300) (hl : 0 ≤ t.last ∧ t.last ≤ 255) (hf : 0 ≤ first ∧ first ≤ 127) (hs : sent < L.length) (hfit : fitsR sent t.n1 t.n2 L = true) (hfo : t.force = true) (hps : sent ≤ pl) (hs0 : 0 < sent) (x : List Int) (hx : L[0]? = some x) :
    Calls Try.prog 87 #[.agg (sdc vL sent first most oct t).toArray] w fun e w' => ∃ v, Oct W v x ∧ e = .returned (.tuple #[.agg (sdc vL sent first most oct { t with place := 0 + 1, force := false }).toArray, .agg (ucs t.last ((first + 0) % 128) t.bib t.fib 2 v).toArray]) ∧ Below w.heap.size w w' := by
  obtain ⟨g, off, c, v, rfl, hc, hv⟩ := hL.msg 0 x hx
  have hcap := hL.len
  have hv0 := hv
  obtain ⟨va, vc, rfl, -⟩ := hv
  have HV := Lib.hid hv0
  have hil : 0 < L.length := (List.getElem?_eq_some_iff.1 hx).1
  obtain ⟨X, hX, hS, hR, hU, hb⟩ := side_two w (sdc (.slice (some ⟨g, off, none⟩) L.length c) sent first most oct t)
  have hfi := fun w' (hb' : Below w.heap.size w w') (t' : SdT) => rfits (hL.below hb') sent first most oct t' hs hn h3
  have hmsg := fun w' (hb' : Below w.heap.size w w') (t' : SdT) (hl' : 0 ≤ t'.last ∧ t'.last ≤ 255) => rmsg g off L.length c va x.length vc w' (sent : Int) first most oct t' 0 hil ⟨hcap.2.1, hcap.2.2⟩ ((hb'.cell (World.block_lt_of_cell? _ _ hc)).trans hc) hl' hf hn
  have hfi1 := fun w' (hb' : Below w.heap.size w w') (t' : SdT) (e1 : t'.n1 = t.n1) (e2 : t'.n2 = t.n2) => (by have := hfi w' hb' t'; rw [e1, e2, hfit] at this; exact this : Calls Try.prog 93 #[.agg (sdc (.slice (some ⟨g, off, none⟩) L.length c) sent first most oct t').toArray] w' fun e w'' => e = .returned (.bool true) ∧ Below w'.heap.size w' w'')
  obtain ⟨n, hnn⟩ : ∃ n, L.length = n := ⟨_, rfl⟩
  rw [hnn] at hX hS hs hn hfi1 hmsg ⊢
  have hsi : (sent : Int) < (n : Int) := by omega
  obtain ⟨M, hM⟩ : ∃ M, (first + ((0 : Nat) : Int)) % 128 = M := ⟨_, rfl⟩
  rw [hM] at hmsg
  have hM' : (first + 0) % 128 = M := hM
  rw [hM']
  have HPL := Lib.hid hpl
  have HFO := Lib.hid hfo
  clear hpl hfo
  have c0 := hS.cell 0 rfl
  have c1 := hS.cell 1 rfl
  have hpl0 : ¬ ((pl : Int) < 0) := by omega
  have hps2 : (sent : Int) ≤ (pl : Int) := by omega
  have hps3 : ¬ (sent : Int) ≤ 0 := by omega
  have hw1 : IntKind.i64.wrap (1 : Int) = 1 := wrapH _ (by omega)
  clear hL hc hv0 hx hfi hfit h3 hnn hM hcap hsl
  go_enter Try.func87, Try.ntmps87
  go_upto_region 1 with fail
  rw [← hX]
  clear hX
  go_wp2_with (first | (refine wpList_side_load_g (.tmp 1) (by rfl) (by rfl) w.heap.size (by rfl) _ hS (by rfl) ?_) | (refine wpList_side_load rfl (.tmp 1) rfl w.heap.size rfl _ hS rfl ?_))
  refine (hfi1 X hb t rfl rfl).mono ?_
  rintro e X1 ⟨rfl, hbq⟩
  have hb1 := bthen hb hbq
  have hS1 := hS.below hbq
  have hR1 := hR.below hbq
  have hU1 := hU.below hbq
  clear hS hR hU hb hbq c0 c1
  have hb := hb1
  have hS := hS1
  have hR := hR1
  have hU := hU1
  clear hb1 hS1 hR1 hU1
  have c13 := hS.cell 13 rfl
  rw [HFO.out] at c13
  have c1 := hS.cell 1 rfl
  have c12 := hS.cell 12 rfl
  rw [show (t.place) = (pl : Int) from HPL.out] at c12
  have f12 := hS.frozen 12
  go_upto_region 10 with fail
  clear c12 f12 c1 c13
  have hbX3 := hb.setCell (p := ⟨w.heap.size, 12, none⟩) (Nat.le_refl _) (.int .i64 0)
  have hSX3 := (hS.set 12 (.int .i64 0)).as (show _ = sdc (.slice (some ⟨g, off, none⟩) n c) sent first most oct { t with place := 0 } from rfl)
  have hRX3 := hR.other (a := ⟨w.heap.size, 12, none⟩) (by show w.heap.size + 1 ≠ w.heap.size; omega) (.int .i64 0)
  have hUX3 := hU.other (a := ⟨w.heap.size, 12, none⟩) (by show w.heap.size + 1 + 1 ≠ w.heap.size; omega) (.int .i64 0)
  clear hS hR hU hb
  generalize X1.setCell ⟨w.heap.size, 12, none⟩ (.int .i64 0) = X3 at *
  have hb := hbX3
  have hS := hSX3
  have hR := hRX3
  have hU := hUX3
  clear hbX3 hSX3 hRX3 hUX3
  have c13 := hS.cell 13 rfl
  have f13 := hS.frozen 13
  go_wp2_with (first | (refine wpList_side_load_g (.tmp 1) (by rfl) (by rfl) w.heap.size (by rfl) _ hS (by rfl) ?_) | (refine wpList_side_load rfl (.tmp 1) rfl w.heap.size rfl _ hS rfl ?_))
  refine (hfi1 X3 hb ({ t with place := 0 } : SdT) rfl rfl).mono ?_
  rintro e X4 ⟨rfl, hbq⟩
  have hb1 := bthen hb hbq
  have hS1 := hS.below hbq
  have hR1 := hR.below hbq
  have hU1 := hU.below hbq
  clear hS hR hU hb hbq c13 f13
  have hb := hb1
  have hS := hS1
  have hR := hR1
  have hU := hU1
  clear hb1 hS1 hR1 hU1
  have c13 := hS.cell 13 rfl
  have f13 := hS.frozen 13
  go_upto_region 11 with fail
  clear c13 f13
  have hbX5 := hb.setCell (p := ⟨w.heap.size, 13, none⟩) (Nat.le_refl _) (.bool false)
  have hSX5 := (hS.set 13 (.bool false)).as (show _ = sdc (.slice (some ⟨g, off, none⟩) n c) sent first most oct { t with place := 0, force := false } from rfl)
  have hRX5 := hR.other (a := ⟨w.heap.size, 13, none⟩) (by show w.heap.size + 1 ≠ w.heap.size; omega) (.bool false)
  have hUX5 := hU.other (a := ⟨w.heap.size, 13, none⟩) (by show w.heap.size + 1 + 1 ≠ w.heap.size; omega) (.bool false)
  clear hS hR hU hb
  generalize X4.setCell ⟨w.heap.size, 13, none⟩ (.bool false) = X5 at *
  have hb := hbX5
  have hS := hSX5
  have hR := hRX5
  have hU := hUX5
  clear hbX5 hSX5 hRX5 hUX5
  have c12 := hS.cell 12 rfl
  have c1 := hS.cell 1 rfl
  have hmg : Calls Try.prog 88 #[.agg (sdc (.slice (some ⟨g, off, none⟩) n c) (sent : Int) first most oct ({ t with place := 0, force := false } : SdT)).toArray, .int .i64 (0)] X5 fun e w'' => e = .returned (.agg (ucs t.last M t.bib t.fib 2 (.slice va x.length vc)).toArray) ∧ Below X5.heap.size X5 w'' := hmsg X5 hb ({ t with place := 0, force := false } : SdT) hl
  clear hmsg
  go_upto_region 13 with fail
  go_wp2_with (first | (refine wpList_side_load_g (.tmp 1) (by rfl) (by rfl) w.heap.size (by rfl) _ hS (by rfl) ?_) | (refine wpList_side_load rfl (.tmp 1) rfl w.heap.size rfl _ hS rfl ?_))
  refine hmg.mono ?_
  rintro e X6 ⟨rfl, hbq⟩
  have hb1 := bthen hb hbq
  have hS1 := hS.below hbq
  have hR1 := hR.below hbq
  have hU1 := hU.below hbq
  clear hS hR hU hb
  have hb := hb1
  have hS := hS1
  have hR := hR1
  have hU := hU1
  clear hb1 hS1 hR1 hU1
  obtain ⟨X7, hX7, hB7, hb7⟩ := unit_box X6 (ucs t.last M t.bib t.fib 2 (.slice va x.length vc))
  have hR0 := Blk.new X6 unit0 69
  have hlt := hS.lt
  have hltU := hU.lt
  clear hmg hbq c1 c12
  go_upto_region 14 with (refine wpList_unit_store rfl (.tmp 7) (.tmp 69) rfl X6.heap.size (ucs t.last M t.bib t.fib 2 (.slice va x.length vc)) unit0 rfl rfl hR0 rfl rfl (ucs_one _ _ _ _ _ _ _ _) ?_)
  rw [← hX7]
  clear hX7 hR0
  have hb1 := bthen hb hb7
  have hS1 := hS.below hb7
  have hR1 := hR.below hb7
  have hU1 := hU.below hb7
  clear hS hR hU hb
  have hb := hb1
  have hS := hS1
  have hR := hR1
  have hU := hU1
  clear hb1 hS1 hR1 hU1
  clear hb7
  have c12 := hS.cell 12 rfl
  have f12 := hS.frozen 12
  go_upto_region 15 with fail
  clear c12 f12
  have hB8 := hB7.other (a := ⟨w.heap.size, 12, none⟩) (by show X6.heap.size ≠ w.heap.size; omega) (.int .i64 1)
  have hne1 : X6.heap.size ≠ w.heap.size + 1 := by omega
  clear hB7
  have hbX8 := hb.setCell (p := ⟨w.heap.size, 12, none⟩) (Nat.le_refl _) (.int .i64 1)
  have hSX8 := (hS.set 12 (.int .i64 1)).as (show _ = sdc (.slice (some ⟨g, off, none⟩) n c) sent first most oct { t with place := 1, force := false } from rfl)
  have hRX8 := hR.other (a := ⟨w.heap.size, 12, none⟩) (by show w.heap.size + 1 ≠ w.heap.size; omega) (.int .i64 1)
  have hUX8 := hU.other (a := ⟨w.heap.size, 12, none⟩) (by show w.heap.size + 1 + 1 ≠ w.heap.size; omega) (.int .i64 1)
  clear hS hR hU hb
  generalize X7.setCell ⟨w.heap.size, 12, none⟩ (.int .i64 1) = X8 at *
  have hb := hbX8
  have hS := hSX8
  have hR := hRX8
  have hU := hUX8
  clear hbX8 hSX8 hRX8 hUX8
  generalize X6.heap.size = b7 at *
  refine wp_region_any (by kernel_rfl) ?_
  change wpAny Try.prog .any _ _ 4 (Array.replicate 4 false) _ _
  obtain ⟨X9, hX9⟩ : ∃ X9 : World, { X8 with drawn := X8.drawn + 1 } = X9 := ⟨_, rfl⟩
  have hb9 : Below X8.heap.size X8 X9 := by rw [← hX9]; exact ⟨rfl, rfl, rfl, Nat.le_refl _, fun _ _ => rfl⟩
  rw [hX9]
  have hB9 := hB8.below hb9
  have hb1 := bthen hb hb9
  have hS1 := hS.below hb9
  have hR1 := hR.below hb9
  have hU1 := hU.below hb9
  clear hS hR hU hb
  have hb := hb1
  have hS := hS1
  have hR := hR1
  have hU := hU1
  clear hb1 hS1 hR1 hU1
  clear hb9 hB8 hX9
  have hU5 := hU.fr (Fr.row1 X9 (w.heap.size + 1) (sdc (.slice (some ⟨g, off, none⟩) n c) (sent : Int) first most oct ({ t with place := 1, force := false } : SdT)).toArray) (fun e => by omega)
  have hB10 := hB9.fr (Fr.row1 X9 (w.heap.size + 1) (sdc (.slice (some ⟨g, off, none⟩) n c) (sent : Int) first most oct ({ t with place := 1, force := false } : SdT)).toArray) (fun e => by omega)
  have hRes := (Blk.row hR (sdc (.slice (some ⟨g, off, none⟩) n c) (sent : Int) first most oct ({ t with place := 1, force := false } : SdT))).fr (Fr.row1 (X9.setRow (w.heap.size + 1) (sdc (.slice (some ⟨g, off, none⟩) n c) (sent : Int) first most oct ({ t with place := 1, force := false } : SdT)).toArray) (w.heap.size + 1 + 1) (ucs t.last M t.bib t.fib 2 (.slice va x.length vc)).toArray) (fun e => by omega)
  refine any_two 0 1 (by kernel_rfl) ?_ ?_
  · refine wpOp_value 74 (by rfl) (by rfl) (by rfl) (run_side_load (.tmp 1) (by rfl) w.heap.size (by rfl) _ hS (by rfl)) ?_
    refine any_two 1 2 (by kernel_rfl) ?_ ?_
    · refine wpOp_value 75 (by rfl) (by rfl) (by rfl) (run_unit_load (.tmp 7) (by rfl) b7 (by rfl) _ hB9 (by rfl)) ?_
      refine any_one 2 (by kernel_rfl) ?_
      refine wpOp_side_store (by rfl) (by rfl) (by rfl) (.tmp 2) (.tmp 74) (by rfl) (w.heap.size + 1) (sdc (.slice (some ⟨g, off, none⟩) n c) (sent : Int) first most oct ({ t with place := 1, force := false } : SdT)) side0 (by rfl) (by rfl) hR (by rfl) (by rfl) (sdc_one _ _ _ _ _ _ _ _) ?_
      refine any_one 3 (by kernel_rfl) ?_
      refine wpOp_unit_store (by rfl) (by rfl) (by rfl) (.tmp 3) (.tmp 75) (by rfl) (w.heap.size + 1 + 1) (ucs t.last M t.bib t.fib 2 (.slice va x.length vc)) unit0 (by rfl) (by rfl) hU5 (by rfl) (by rfl) (ucs_one _ _ _ _ _ _ _ _) ?_
      refine ⟨by kernel_rfl, ?_⟩
      go_wp2
      refine bodyPost_ret (res_two Try.results87 (by rfl) hRes rfl (by rfl) (Blk.row hU5 _) rfl) rfl ⟨_, HV.out, rfl, ?_⟩
      exact below_row (below_row hb (by omega) _) (by omega) _
    · refine wpOp_side_store (by rfl) (by rfl) (by rfl) (.tmp 2) (.tmp 74) (by rfl) (w.heap.size + 1) (sdc (.slice (some ⟨g, off, none⟩) n c) (sent : Int) first most oct ({ t with place := 1, force := false } : SdT)) side0 (by rfl) (by rfl) hR (by rfl) (by rfl) (sdc_one _ _ _ _ _ _ _ _) ?_
      refine any_one 1 (by kernel_rfl) ?_
      refine wpOp_value 75 (by rfl) (by rfl) (by rfl) (run_unit_load (.tmp 7) (by rfl) b7 (by rfl) _ hB10 (by rfl)) ?_
      refine any_one 3 (by kernel_rfl) ?_
      refine wpOp_unit_store (by rfl) (by rfl) (by rfl) (.tmp 3) (.tmp 75) (by rfl) (w.heap.size + 1 + 1) (ucs t.last M t.bib t.fib 2 (.slice va x.length vc)) unit0 (by rfl) (by rfl) hU5 (by rfl) (by rfl) (ucs_one _ _ _ _ _ _ _ _) ?_
      refine ⟨by kernel_rfl, ?_⟩
      go_wp2
      refine bodyPost_ret (res_two Try.results87 (by rfl) hRes rfl (by rfl) (Blk.row hU5 _) rfl) rfl ⟨_, HV.out, rfl, ?_⟩
      exact below_row (below_row hb (by omega) _) (by omega) _
  · refine wpOp_value 75 (by rfl) (by rfl) (by rfl) (run_unit_load (.tmp 7) (by rfl) b7 (by rfl) _ hB9 (by rfl)) ?_
    refine any_one 0 (by kernel_rfl) ?_
    refine wpOp_value 74 (by rfl) (by rfl) (by rfl) (run_side_load (.tmp 1) (by rfl) w.heap.size (by rfl) _ hS (by rfl)) ?_
    refine any_one 2 (by kernel_rfl) ?_
    refine wpOp_side_store (by rfl) (by rfl) (by rfl) (.tmp 2) (.tmp 74) (by rfl) (w.heap.size + 1) (sdc (.slice (some ⟨g, off, none⟩) n c) (sent : Int) first most oct ({ t with place := 1, force := false } : SdT)) side0 (by rfl) (by rfl) hR (by rfl) (by rfl) (sdc_one _ _ _ _ _ _ _ _) ?_
    refine any_one 3 (by kernel_rfl) ?_
    refine wpOp_unit_store (by rfl) (by rfl) (by rfl) (.tmp 3) (.tmp 75) (by rfl) (w.heap.size + 1 + 1) (ucs t.last M t.bib t.fib 2 (.slice va x.length vc)) unit0 (by rfl) (by rfl) hU5 (by rfl) (by rfl) (ucs_one _ _ _ _ _ _ _ _) ?_
    refine ⟨by kernel_rfl, ?_⟩
    go_wp2
    refine bodyPost_ret (res_two Try.results87 (by rfl) hRes rfl (by rfl) (Blk.row hU5 _) rfl) rfl ⟨_, HV.out, rfl, ?_⟩
    exact below_row (below_row hb (by omega) _) (by omega) _
set_option maxHeartbeats 4000000 in
set_option maxRecDepth 100000 in
theorem ragain_AtP {W w : World} {vL : Value} {L : List (List Int)} (hL : RR W w vL L) (sent pl : Nat) (first most oct : Int) (t : SdT) (hpl : t.place = (pl : Int)) (hpb : pl ≤ 1000) (hsl : sent ≤ L.length) (hn : L.length ≤ 1000) (h3 : ∀ x ∈ L, x.length ≤ 300) (hl : 0 ≤ t.last ∧ t.last ≤ 255) (hf : 0 ≤ first ∧ first ≤ 127) (hs : sent = L.length) (hfo : t.force = true) (hps : pl < sent) (x : List Int) (hx : L[pl]? = some x) :
    Calls Try.prog 87 #[.agg (sdc vL sent first most oct t).toArray] w fun e w' => ∃ v, Oct W v x ∧ e = .returned (.tuple #[.agg (sdc vL sent first most oct { t with place := (pl : Int) + 1 }).toArray, .agg (ucs t.last ((first + (pl : Int)) % 128) t.bib t.fib 2 v).toArray]) ∧ Below w.heap.size w w' := by
  obtain ⟨g, off, c, v, rfl, hc, hv⟩ := hL.msg pl x hx
  have hcap := hL.len
  have hv0 := hv
  obtain ⟨va, vc, rfl, -⟩ := hv
  have HV := Lib.hid hv0
  have hil : pl < L.length := (List.getElem?_eq_some_iff.1 hx).1
  obtain ⟨X, hX, hS, hR, hU, hb⟩ := side_two w (sdc (.slice (some ⟨g, off, none⟩) L.length c) sent first most oct t)
  have hmsg := fun w' (hb' : Below w.heap.size w w') (t' : SdT) (hl' : 0 ≤ t'.last ∧ t'.last ≤ 255) => rmsg g off L.length c va x.length vc w' (sent : Int) first most oct t' pl hil ⟨hcap.2.1, hcap.2.2⟩ ((hb'.cell (World.block_lt_of_cell? _ _ hc)).trans hc) hl' hf hn
  obtain ⟨n, hnn⟩ : ∃ n, L.length = n := ⟨_, rfl⟩
  rw [hnn] at hX hS hs hn hmsg ⊢
  have hsi : ¬ (sent : Int) < (n : Int) := by omega
  obtain ⟨M, hM⟩ : ∃ M, (first + ((pl : Nat) : Int)) % 128 = M := ⟨_, rfl⟩
  rw [hM] at hmsg
  have hM' : (first + (pl : Int)) % 128 = M := hM
  rw [hM']
  have HPL := Lib.hid hpl
  have HFO := Lib.hid hfo
  clear hpl hfo hs
  have c0 := hS.cell 0 rfl
  have c1 := hS.cell 1 rfl
  have hpl0 : ¬ ((pl : Int) < 0) := by omega
  have hps2 : ¬ (sent : Int) ≤ (pl : Int) := by omega
  have hw1 : IntKind.i64.wrap ((pl : Int) + 1) = (pl : Int) + 1 := wrapH _ (by omega)
  clear hL hc hv0 hx h3 hnn hM hcap hsl
  go_enter Try.func87, Try.ntmps87
  go_upto_region 1 with fail
  rw [← hX]
  clear hX
  have c13 := hS.cell 13 rfl
  rw [HFO.out] at c13
  have c1 := hS.cell 1 rfl
  have c12 := hS.cell 12 rfl
  rw [show (t.place) = (pl : Int) from HPL.out] at c12
  go_upto_region 11 with fail
  have hmg : Calls Try.prog 88 #[.agg (sdc (.slice (some ⟨g, off, none⟩) n c) (sent : Int) first most oct (t : SdT)).toArray, .int .i64 ((pl : Int))] X fun e w'' => e = .returned (.agg (ucs t.last M t.bib t.fib 2 (.slice va x.length vc)).toArray) ∧ Below X.heap.size X w'' := hmsg X hb (t : SdT) hl
  clear hmsg
  go_upto_region 13 with fail
  go_wp2_with (first | (refine wpList_side_load_g (.tmp 1) (by rfl) (by rfl) w.heap.size (by rfl) _ hS (by rfl) ?_) | (refine wpList_side_load rfl (.tmp 1) rfl w.heap.size rfl _ hS rfl ?_))
  refine hmg.mono ?_
  rintro e X6 ⟨rfl, hbq⟩
  have hb1 := bthen hb hbq
  have hS1 := hS.below hbq
  have hR1 := hR.below hbq
  have hU1 := hU.below hbq
  clear hS hR hU hb
  have hb := hb1
  have hS := hS1
  have hR := hR1
  have hU := hU1
  clear hb1 hS1 hR1 hU1
  obtain ⟨X7, hX7, hB7, hb7⟩ := unit_box X6 (ucs t.last M t.bib t.fib 2 (.slice va x.length vc))
  have hR0 := Blk.new X6 unit0 69
  have hlt := hS.lt
  have hltU := hU.lt
  clear hmg hbq c1 c12
  go_upto_region 14 with (refine wpList_unit_store rfl (.tmp 7) (.tmp 69) rfl X6.heap.size (ucs t.last M t.bib t.fib 2 (.slice va x.length vc)) unit0 rfl rfl hR0 rfl rfl (ucs_one _ _ _ _ _ _ _ _) ?_)
  rw [← hX7]
  clear hX7 hR0
  have hb1 := bthen hb hb7
  have hS1 := hS.below hb7
  have hR1 := hR.below hb7
  have hU1 := hU.below hb7
  clear hS hR hU hb
  have hb := hb1
  have hS := hS1
  have hR := hR1
  have hU := hU1
  clear hb1 hS1 hR1 hU1
  clear hb7
  have c12 := hS.cell 12 rfl
  replace c12 := c12.trans (show _ = some (Value.int .i64 (pl : Int)) from by rw [← HPL.out])
  have f12 := hS.frozen 12
  go_upto_region 15 with fail
  clear c12 f12
  have hB8 := hB7.other (a := ⟨w.heap.size, 12, none⟩) (by show X6.heap.size ≠ w.heap.size; omega) (.int .i64 ((pl : Int) + 1))
  have hne1 : X6.heap.size ≠ w.heap.size + 1 := by omega
  clear hB7
  have hbX8 := hb.setCell (p := ⟨w.heap.size, 12, none⟩) (Nat.le_refl _) (.int .i64 ((pl : Int) + 1))
  have hSX8 := (hS.set 12 (.int .i64 ((pl : Int) + 1))).as (show _ = sdc (.slice (some ⟨g, off, none⟩) n c) sent first most oct { t with place := (pl : Int) + 1 } from rfl)
  have hRX8 := hR.other (a := ⟨w.heap.size, 12, none⟩) (by show w.heap.size + 1 ≠ w.heap.size; omega) (.int .i64 ((pl : Int) + 1))
  have hUX8 := hU.other (a := ⟨w.heap.size, 12, none⟩) (by show w.heap.size + 1 + 1 ≠ w.heap.size; omega) (.int .i64 ((pl : Int) + 1))
  clear hS hR hU hb
  generalize X7.setCell ⟨w.heap.size, 12, none⟩ (.int .i64 ((pl : Int) + 1)) = X8 at *
  have hb := hbX8
  have hS := hSX8
  have hR := hRX8
  have hU := hUX8
  clear hbX8 hSX8 hRX8 hUX8
  generalize X6.heap.size = b7 at *
  refine wp_region_any (by kernel_rfl) ?_
  change wpAny Try.prog .any _ _ 4 (Array.replicate 4 false) _ _
  obtain ⟨X9, hX9⟩ : ∃ X9 : World, { X8 with drawn := X8.drawn + 1 } = X9 := ⟨_, rfl⟩
  have hb9 : Below X8.heap.size X8 X9 := by rw [← hX9]; exact ⟨rfl, rfl, rfl, Nat.le_refl _, fun _ _ => rfl⟩
  rw [hX9]
  have hB9 := hB8.below hb9
  have hb1 := bthen hb hb9
  have hS1 := hS.below hb9
  have hR1 := hR.below hb9
  have hU1 := hU.below hb9
  clear hS hR hU hb
  have hb := hb1
  have hS := hS1
  have hR := hR1
  have hU := hU1
  clear hb1 hS1 hR1 hU1
  clear hb9 hB8 hX9
  have hU5 := hU.fr (Fr.row1 X9 (w.heap.size + 1) (sdc (.slice (some ⟨g, off, none⟩) n c) (sent : Int) first most oct ({ t with place := (pl : Int) + 1 } : SdT)).toArray) (fun e => by omega)
  have hB10 := hB9.fr (Fr.row1 X9 (w.heap.size + 1) (sdc (.slice (some ⟨g, off, none⟩) n c) (sent : Int) first most oct ({ t with place := (pl : Int) + 1 } : SdT)).toArray) (fun e => by omega)
  have hRes := (Blk.row hR (sdc (.slice (some ⟨g, off, none⟩) n c) (sent : Int) first most oct ({ t with place := (pl : Int) + 1 } : SdT))).fr (Fr.row1 (X9.setRow (w.heap.size + 1) (sdc (.slice (some ⟨g, off, none⟩) n c) (sent : Int) first most oct ({ t with place := (pl : Int) + 1 } : SdT)).toArray) (w.heap.size + 1 + 1) (ucs t.last M t.bib t.fib 2 (.slice va x.length vc)).toArray) (fun e => by omega)
  refine any_two 0 1 (by kernel_rfl) ?_ ?_
  · refine wpOp_value 74 (by rfl) (by rfl) (by rfl) (run_side_load (.tmp 1) (by rfl) w.heap.size (by rfl) _ hS (by rfl)) ?_
    refine any_two 1 2 (by kernel_rfl) ?_ ?_
    · refine wpOp_value 75 (by rfl) (by rfl) (by rfl) (run_unit_load (.tmp 7) (by rfl) b7 (by rfl) _ hB9 (by rfl)) ?_
      refine any_one 2 (by kernel_rfl) ?_
      refine wpOp_side_store (by rfl) (by rfl) (by rfl) (.tmp 2) (.tmp 74) (by rfl) (w.heap.size + 1) (sdc (.slice (some ⟨g, off, none⟩) n c) (sent : Int) first most oct ({ t with place := (pl : Int) + 1 } : SdT)) side0 (by rfl) (by rfl) hR (by rfl) (by rfl) (sdc_one _ _ _ _ _ _ _ _) ?_
      refine any_one 3 (by kernel_rfl) ?_
      refine wpOp_unit_store (by rfl) (by rfl) (by rfl) (.tmp 3) (.tmp 75) (by rfl) (w.heap.size + 1 + 1) (ucs t.last M t.bib t.fib 2 (.slice va x.length vc)) unit0 (by rfl) (by rfl) hU5 (by rfl) (by rfl) (ucs_one _ _ _ _ _ _ _ _) ?_
      refine ⟨by kernel_rfl, ?_⟩
      go_wp2
      refine bodyPost_ret (res_two Try.results87 (by rfl) hRes rfl (by rfl) (Blk.row hU5 _) rfl) rfl ⟨_, HV.out, rfl, ?_⟩
      exact below_row (below_row hb (by omega) _) (by omega) _
    · refine wpOp_side_store (by rfl) (by rfl) (by rfl) (.tmp 2) (.tmp 74) (by rfl) (w.heap.size + 1) (sdc (.slice (some ⟨g, off, none⟩) n c) (sent : Int) first most oct ({ t with place := (pl : Int) + 1 } : SdT)) side0 (by rfl) (by rfl) hR (by rfl) (by rfl) (sdc_one _ _ _ _ _ _ _ _) ?_
      refine any_one 1 (by kernel_rfl) ?_
      refine wpOp_value 75 (by rfl) (by rfl) (by rfl) (run_unit_load (.tmp 7) (by rfl) b7 (by rfl) _ hB10 (by rfl)) ?_
      refine any_one 3 (by kernel_rfl) ?_
      refine wpOp_unit_store (by rfl) (by rfl) (by rfl) (.tmp 3) (.tmp 75) (by rfl) (w.heap.size + 1 + 1) (ucs t.last M t.bib t.fib 2 (.slice va x.length vc)) unit0 (by rfl) (by rfl) hU5 (by rfl) (by rfl) (ucs_one _ _ _ _ _ _ _ _) ?_
      refine ⟨by kernel_rfl, ?_⟩
      go_wp2
      refine bodyPost_ret (res_two Try.results87 (by rfl) hRes rfl (by rfl) (Blk.row hU5 _) rfl) rfl ⟨_, HV.out, rfl, ?_⟩
      exact below_row (below_row hb (by omega) _) (by omega) _
  · refine wpOp_value 75 (by rfl) (by rfl) (by rfl) (run_unit_load (.tmp 7) (by rfl) b7 (by rfl) _ hB9 (by rfl)) ?_
    refine any_one 0 (by kernel_rfl) ?_
    refine wpOp_value 74 (by rfl) (by rfl) (by rfl) (run_side_load (.tmp 1) (by rfl) w.heap.size (by rfl) _ hS (by rfl)) ?_
    refine any_one 2 (by kernel_rfl) ?_
    refine wpOp_side_store (by rfl) (by rfl) (by rfl) (.tmp 2) (.tmp 74) (by rfl) (w.heap.size + 1) (sdc (.slice (some ⟨g, off, none⟩) n c) (sent : Int) first most oct ({ t with place := (pl : Int) + 1 } : SdT)) side0 (by rfl) (by rfl) hR (by rfl) (by rfl) (sdc_one _ _ _ _ _ _ _ _) ?_
    refine any_one 3 (by kernel_rfl) ?_
    refine wpOp_unit_store (by rfl) (by rfl) (by rfl) (.tmp 3) (.tmp 75) (by rfl) (w.heap.size + 1 + 1) (ucs t.last M t.bib t.fib 2 (.slice va x.length vc)) unit0 (by rfl) (by rfl) hU5 (by rfl) (by rfl) (ucs_one _ _ _ _ _ _ _ _) ?_
    refine ⟨by kernel_rfl, ?_⟩
    go_wp2
    refine bodyPost_ret (res_two Try.results87 (by rfl) hRes rfl (by rfl) (Blk.row hU5 _) rfl) rfl ⟨_, HV.out, rfl, ?_⟩
    exact below_row (below_row hb (by omega) _) (by omega) _
set_option maxHeartbeats 4000000 in
set_option maxRecDepth 100000 in
theorem ragain_AtQ {W w : World} {vL : Value} {L : List (List Int)} (hL : RR W w vL L) (sent pl : Nat) (first most oct : Int) (t : SdT) (hpl : t.place = (pl : Int)) (hpb : pl ≤ 1000) (hsl : sent ≤ L.length) (hn : L.length ≤ 1000) (h3 : ∀ x ∈ L, x.length ≤ 300) (hl : 0 ≤ t.last ∧ t.last ≤ 255) (hf : 0 ≤ first ∧ first ≤ 127) (hs : sent = L.length) (hfo : t.force = true) (hps : sent ≤ pl) (hs0 : 0 < sent) (x : List Int) (hx : L[0]? = some x) :
    Calls Try.prog 87 #[.agg (sdc vL sent first most oct t).toArray] w fun e w' => ∃ v, Oct W v x ∧ e = .returned (.tuple #[.agg (sdc vL sent first most oct { t with place := 0 + 1, force := false }).toArray, .agg (ucs t.last ((first + 0) % 128) t.bib t.fib 2 v).toArray]) ∧ Below w.heap.size w w' := by
  obtain ⟨g, off, c, v, rfl, hc, hv⟩ := hL.msg 0 x hx
  have hcap := hL.len
  have hv0 := hv
  obtain ⟨va, vc, rfl, -⟩ := hv
  have HV := Lib.hid hv0
  have hil : 0 < L.length := (List.getElem?_eq_some_iff.1 hx).1
  obtain ⟨X, hX, hS, hR, hU, hb⟩ := side_two w (sdc (.slice (some ⟨g, off, none⟩) L.length c) sent first most oct t)
  have hmsg := fun w' (hb' : Below w.heap.size w w') (t' : SdT) (hl' : 0 ≤ t'.last ∧ t'.last ≤ 255) => rmsg g off L.length c va x.length vc w' (sent : Int) first most oct t' 0 hil ⟨hcap.2.1, hcap.2.2⟩ ((hb'.cell (World.block_lt_of_cell? _ _ hc)).trans hc) hl' hf hn
  obtain ⟨n, hnn⟩ : ∃ n, L.length = n := ⟨_, rfl⟩
  rw [hnn] at hX hS hs hn hmsg ⊢
  have hsi : ¬ (sent : Int) < (n : Int) := by omega
  obtain ⟨M, hM⟩ : ∃ M, (first + ((0 : Nat) : Int)) % 128 = M := ⟨_, rfl⟩
  rw [hM] at hmsg
  have hM' : (first + 0) % 128 = M := hM
  rw [hM']
  have HPL := Lib.hid hpl
  have HFO := Lib.hid hfo
  clear hpl hfo hs
  have c0 := hS.cell 0 rfl
  have c1 := hS.cell 1 rfl
  have hpl0 : ¬ ((pl : Int) < 0) := by omega
  have hps2 : (sent : Int) ≤ (pl : Int) := by omega
  have hps3 : ¬ (sent : Int) ≤ 0 := by omega
  have hw1 : IntKind.i64.wrap (1 : Int) = 1 := wrapH _ (by omega)
  clear hL hc hv0 hx h3 hnn hM hcap hsl
  go_enter Try.func87, Try.ntmps87
  go_upto_region 1 with fail
  rw [← hX]
  clear hX
  have c13 := hS.cell 13 rfl
  rw [HFO.out] at c13
  have c1 := hS.cell 1 rfl
  have c12 := hS.cell 12 rfl
  rw [show (t.place) = (pl : Int) from HPL.out] at c12
  have f12 := hS.frozen 12
  go_upto_region 10 with fail
  clear c12 f12 c1 c13
  have hbX3 := hb.setCell (p := ⟨w.heap.size, 12, none⟩) (Nat.le_refl _) (.int .i64 0)
  have hSX3 := (hS.set 12 (.int .i64 0)).as (show _ = sdc (.slice (some ⟨g, off, none⟩) n c) sent first most oct { t with place := 0 } from rfl)
  have hRX3 := hR.other (a := ⟨w.heap.size, 12, none⟩) (by show w.heap.size + 1 ≠ w.heap.size; omega) (.int .i64 0)
  have hUX3 := hU.other (a := ⟨w.heap.size, 12, none⟩) (by show w.heap.size + 1 + 1 ≠ w.heap.size; omega) (.int .i64 0)
  clear hS hR hU hb
  generalize X.setCell ⟨w.heap.size, 12, none⟩ (.int .i64 0) = X3 at *
  have hb := hbX3
  have hS := hSX3
  have hR := hRX3
  have hU := hUX3
  clear hbX3 hSX3 hRX3 hUX3
  have c13 := hS.cell 13 rfl
  have f13 := hS.frozen 13
  go_upto_region 11 with fail
  clear c13 f13
  have hbX5 := hb.setCell (p := ⟨w.heap.size, 13, none⟩) (Nat.le_refl _) (.bool false)
  have hSX5 := (hS.set 13 (.bool false)).as (show _ = sdc (.slice (some ⟨g, off, none⟩) n c) sent first most oct { t with place := 0, force := false } from rfl)
  have hRX5 := hR.other (a := ⟨w.heap.size, 13, none⟩) (by show w.heap.size + 1 ≠ w.heap.size; omega) (.bool false)
  have hUX5 := hU.other (a := ⟨w.heap.size, 13, none⟩) (by show w.heap.size + 1 + 1 ≠ w.heap.size; omega) (.bool false)
  clear hS hR hU hb
  generalize X3.setCell ⟨w.heap.size, 13, none⟩ (.bool false) = X5 at *
  have hb := hbX5
  have hS := hSX5
  have hR := hRX5
  have hU := hUX5
  clear hbX5 hSX5 hRX5 hUX5
  have c12 := hS.cell 12 rfl
  have c1 := hS.cell 1 rfl
  have hmg : Calls Try.prog 88 #[.agg (sdc (.slice (some ⟨g, off, none⟩) n c) (sent : Int) first most oct ({ t with place := 0, force := false } : SdT)).toArray, .int .i64 (0)] X5 fun e w'' => e = .returned (.agg (ucs t.last M t.bib t.fib 2 (.slice va x.length vc)).toArray) ∧ Below X5.heap.size X5 w'' := hmsg X5 hb ({ t with place := 0, force := false } : SdT) hl
  clear hmsg
  go_upto_region 13 with fail
  go_wp2_with (first | (refine wpList_side_load_g (.tmp 1) (by rfl) (by rfl) w.heap.size (by rfl) _ hS (by rfl) ?_) | (refine wpList_side_load rfl (.tmp 1) rfl w.heap.size rfl _ hS rfl ?_))
  refine hmg.mono ?_
  rintro e X6 ⟨rfl, hbq⟩
  have hb1 := bthen hb hbq
  have hS1 := hS.below hbq
  have hR1 := hR.below hbq
  have hU1 := hU.below hbq
  clear hS hR hU hb
  have hb := hb1
  have hS := hS1
  have hR := hR1
  have hU := hU1
  clear hb1 hS1 hR1 hU1
  obtain ⟨X7, hX7, hB7, hb7⟩ := unit_box X6 (ucs t.last M t.bib t.fib 2 (.slice va x.length vc))
  have hR0 := Blk.new X6 unit0 69
  have hlt := hS.lt
  have hltU := hU.lt
  clear hmg hbq c1 c12
  go_upto_region 14 with (refine wpList_unit_store rfl (.tmp 7) (.tmp 69) rfl X6.heap.size (ucs t.last M t.bib t.fib 2 (.slice va x.length vc)) unit0 rfl rfl hR0 rfl rfl (ucs_one _ _ _ _ _ _ _ _) ?_)
  rw [← hX7]
  clear hX7 hR0
  have hb1 := bthen hb hb7
  have hS1 := hS.below hb7
  have hR1 := hR.below hb7
  have hU1 := hU.below hb7
  clear hS hR hU hb
  have hb := hb1
  have hS := hS1
  have hR := hR1
  have hU := hU1
  clear hb1 hS1 hR1 hU1
  clear hb7
  have c12 := hS.cell 12 rfl
  have f12 := hS.frozen 12
  go_upto_region 15 with fail
  clear c12 f12
  have hB8 := hB7.other (a := ⟨w.heap.size, 12, none⟩) (by show X6.heap.size ≠ w.heap.size; omega) (.int .i64 1)
  have hne1 : X6.heap.size ≠ w.heap.size + 1 := by omega
  clear hB7
  have hbX8 := hb.setCell (p := ⟨w.heap.size, 12, none⟩) (Nat.le_refl _) (.int .i64 1)
  have hSX8 := (hS.set 12 (.int .i64 1)).as (show _ = sdc (.slice (some ⟨g, off, none⟩) n c) sent first most oct { t with place := 1, force := false } from rfl)
  have hRX8 := hR.other (a := ⟨w.heap.size, 12, none⟩) (by show w.heap.size + 1 ≠ w.heap.size; omega) (.int .i64 1)
  have hUX8 := hU.other (a := ⟨w.heap.size, 12, none⟩) (by show w.heap.size + 1 + 1 ≠ w.heap.size; omega) (.int .i64 1)
  clear hS hR hU hb
  generalize X7.setCell ⟨w.heap.size, 12, none⟩ (.int .i64 1) = X8 at *
  have hb := hbX8
  have hS := hSX8
  have hR := hRX8
  have hU := hUX8
  clear hbX8 hSX8 hRX8 hUX8
  generalize X6.heap.size = b7 at *
  refine wp_region_any (by kernel_rfl) ?_
  change wpAny Try.prog .any _ _ 4 (Array.replicate 4 false) _ _
  obtain ⟨X9, hX9⟩ : ∃ X9 : World, { X8 with drawn := X8.drawn + 1 } = X9 := ⟨_, rfl⟩
  have hb9 : Below X8.heap.size X8 X9 := by rw [← hX9]; exact ⟨rfl, rfl, rfl, Nat.le_refl _, fun _ _ => rfl⟩
  rw [hX9]
  have hB9 := hB8.below hb9
  have hb1 := bthen hb hb9
  have hS1 := hS.below hb9
  have hR1 := hR.below hb9
  have hU1 := hU.below hb9
  clear hS hR hU hb
  have hb := hb1
  have hS := hS1
  have hR := hR1
  have hU := hU1
  clear hb1 hS1 hR1 hU1
  clear hb9 hB8 hX9
  have hU5 := hU.fr (Fr.row1 X9 (w.heap.size + 1) (sdc (.slice (some ⟨g, off, none⟩) n c) (sent : Int) first most oct ({ t with place := 1, force := false } : SdT)).toArray) (fun e => by omega)
  have hB10 := hB9.fr (Fr.row1 X9 (w.heap.size + 1) (sdc (.slice (some ⟨g, off, none⟩) n c) (sent : Int) first most oct ({ t with place := 1, force := false } : SdT)).toArray) (fun e => by omega)
  have hRes := (Blk.row hR (sdc (.slice (some ⟨g, off, none⟩) n c) (sent : Int) first most oct ({ t with place := 1, force := false } : SdT))).fr (Fr.row1 (X9.setRow (w.heap.size + 1) (sdc (.slice (some ⟨g, off, none⟩) n c) (sent : Int) first most oct ({ t with place := 1, force := false } : SdT)).toArray) (w.heap.size + 1 + 1) (ucs t.last M t.bib t.fib 2 (.slice va x.length vc)).toArray) (fun e => by omega)
  refine any_two 0 1 (by kernel_rfl) ?_ ?_
  · refine wpOp_value 74 (by rfl) (by rfl) (by rfl) (run_side_load (.tmp 1) (by rfl) w.heap.size (by rfl) _ hS (by rfl)) ?_
    refine any_two 1 2 (by kernel_rfl) ?_ ?_
    · refine wpOp_value 75 (by rfl) (by rfl) (by rfl) (run_unit_load (.tmp 7) (by rfl) b7 (by rfl) _ hB9 (by rfl)) ?_
      refine any_one 2 (by kernel_rfl) ?_
      refine wpOp_side_store (by rfl) (by rfl) (by rfl) (.tmp 2) (.tmp 74) (by rfl) (w.heap.size + 1) (sdc (.slice (some ⟨g, off, none⟩) n c) (sent : Int) first most oct ({ t with place := 1, force := false } : SdT)) side0 (by rfl) (by rfl) hR (by rfl) (by rfl) (sdc_one _ _ _ _ _ _ _ _) ?_
      refine any_one 3 (by kernel_rfl) ?_
      refine wpOp_unit_store (by rfl) (by rfl) (by rfl) (.tmp 3) (.tmp 75) (by rfl) (w.heap.size + 1 + 1) (ucs t.last M t.bib t.fib 2 (.slice va x.length vc)) unit0 (by rfl) (by rfl) hU5 (by rfl) (by rfl) (ucs_one _ _ _ _ _ _ _ _) ?_
      refine ⟨by kernel_rfl, ?_⟩
      go_wp2
      refine bodyPost_ret (res_two Try.results87 (by rfl) hRes rfl (by rfl) (Blk.row hU5 _) rfl) rfl ⟨_, HV.out, rfl, ?_⟩
      exact below_row (below_row hb (by omega) _) (by omega) _
    · refine wpOp_side_store (by rfl) (by rfl) (by rfl) (.tmp 2) (.tmp 74) (by rfl) (w.heap.size + 1) (sdc (.slice (some ⟨g, off, none⟩) n c) (sent : Int) first most oct ({ t with place := 1, force := false } : SdT)) side0 (by rfl) (by rfl) hR (by rfl) (by rfl) (sdc_one _ _ _ _ _ _ _ _) ?_
      refine any_one 1 (by kernel_rfl) ?_
      refine wpOp_value 75 (by rfl) (by rfl) (by rfl) (run_unit_load (.tmp 7) (by rfl) b7 (by rfl) _ hB10 (by rfl)) ?_
      refine any_one 3 (by kernel_rfl) ?_
      refine wpOp_unit_store (by rfl) (by rfl) (by rfl) (.tmp 3) (.tmp 75) (by rfl) (w.heap.size + 1 + 1) (ucs t.last M t.bib t.fib 2 (.slice va x.length vc)) unit0 (by rfl) (by rfl) hU5 (by rfl) (by rfl) (ucs_one _ _ _ _ _ _ _ _) ?_
      refine ⟨by kernel_rfl, ?_⟩
      go_wp2
      refine bodyPost_ret (res_two Try.results87 (by rfl) hRes rfl (by rfl) (Blk.row hU5 _) rfl) rfl ⟨_, HV.out, rfl, ?_⟩
      exact below_row (below_row hb (by omega) _) (by omega) _
  · refine wpOp_value 75 (by rfl) (by rfl) (by rfl) (run_unit_load (.tmp 7) (by rfl) b7 (by rfl) _ hB9 (by rfl)) ?_
    refine any_one 0 (by kernel_rfl) ?_
    refine wpOp_value 74 (by rfl) (by rfl) (by rfl) (run_side_load (.tmp 1) (by rfl) w.heap.size (by rfl) _ hS (by rfl)) ?_
    refine any_one 2 (by kernel_rfl) ?_
    refine wpOp_side_store (by rfl) (by rfl) (by rfl) (.tmp 2) (.tmp 74) (by rfl) (w.heap.size + 1) (sdc (.slice (some ⟨g, off, none⟩) n c) (sent : Int) first most oct ({ t with place := 1, force := false } : SdT)) side0 (by rfl) (by rfl) hR (by rfl) (by rfl) (sdc_one _ _ _ _ _ _ _ _) ?_
    refine any_one 3 (by kernel_rfl) ?_
    refine wpOp_unit_store (by rfl) (by rfl) (by rfl) (.tmp 3) (.tmp 75) (by rfl) (w.heap.size + 1 + 1) (ucs t.last M t.bib t.fib 2 (.slice va x.length vc)) unit0 (by rfl) (by rfl) hU5 (by rfl) (by rfl) (ucs_one _ _ _ _ _ _ _ _) ?_
    refine ⟨by kernel_rfl, ?_⟩
    go_wp2
    refine bodyPost_ret (res_two Try.results87 (by rfl) hRes rfl (by rfl) (Blk.row hU5 _) rfl) rfl ⟨_, HV.out, rfl, ?_⟩
    exact below_row (below_row hb (by omega) _) (by omega) _
set_option maxHeartbeats 4000000 in
set_option maxRecDepth 100000 in
theorem ragain_AfP {W w : World} {vL : Value} {L : List (List Int)} (hL : RR W w vL L) (sent pl : Nat) (first most oct : Int) (t : SdT) (hpl : t.place = (pl : Int)) (hpb : pl ≤ 1000) (hsl : sent ≤ L.length) (hn : L.length ≤ 1000) (h3 : ∀ x ∈ L, x.length ≤ 300) (hl : 0 ≤ t.last ∧ t.last ≤ 255) (hf : 0 ≤ first ∧ first ≤ 127) (hs : sent = L.length) (hfo : t.force = false) (hps : pl < sent) (x : List Int) (hx : L[pl]? = some x) :
    Calls Try.prog 87 #[.agg (sdc vL sent first most oct t).toArray] w fun e w' => ∃ v, Oct W v x ∧ e = .returned (.tuple #[.agg (sdc vL sent first most oct { t with place := (pl : Int) + 1 }).toArray, .agg (ucs t.last ((first + (pl : Int)) % 128) t.bib t.fib 2 v).toArray]) ∧ Below w.heap.size w w' := by
  obtain ⟨g, off, c, v, rfl, hc, hv⟩ := hL.msg pl x hx
  have hcap := hL.len
  have hv0 := hv
  obtain ⟨va, vc, rfl, -⟩ := hv
  have HV := Lib.hid hv0
  have hil : pl < L.length := (List.getElem?_eq_some_iff.1 hx).1
  obtain ⟨X, hX, hS, hR, hU, hb⟩ := side_two w (sdc (.slice (some ⟨g, off, none⟩) L.length c) sent first most oct t)
  have hmsg := fun w' (hb' : Below w.heap.size w w') (t' : SdT) (hl' : 0 ≤ t'.last ∧ t'.last ≤ 255) => rmsg g off L.length c va x.length vc w' (sent : Int) first most oct t' pl hil ⟨hcap.2.1, hcap.2.2⟩ ((hb'.cell (World.block_lt_of_cell? _ _ hc)).trans hc) hl' hf hn
  obtain ⟨n, hnn⟩ : ∃ n, L.length = n := ⟨_, rfl⟩
  rw [hnn] at hX hS hs hn hmsg ⊢
  have hsi : ¬ (sent : Int) < (n : Int) := by omega
  obtain ⟨M, hM⟩ : ∃ M, (first + ((pl : Nat) : Int)) % 128 = M := ⟨_, rfl⟩
  rw [hM] at hmsg
  have hM' : (first + (pl : Int)) % 128 = M := hM
  rw [hM']
  have HPL := Lib.hid hpl
  have HFO := Lib.hid hfo
  clear hpl hfo hs
  have c0 := hS.cell 0 rfl
  have c1 := hS.cell 1 rfl
  have hpl0 : ¬ ((pl : Int) < 0) := by omega
  have hps2 : ¬ (sent : Int) ≤ (pl : Int) := by omega
  have hw1 : IntKind.i64.wrap ((pl : Int) + 1) = (pl : Int) + 1 := wrapH _ (by omega)
  clear hL hc hv0 hx h3 hnn hM hcap hsl
  go_enter Try.func87, Try.ntmps87
  go_upto_region 1 with fail
  rw [← hX]
  clear hX
  have c13 := hS.cell 13 rfl
  rw [HFO.out] at c13
  have c1 := hS.cell 1 rfl
  have c12 := hS.cell 12 rfl
  rw [show (t.place) = (pl : Int) from HPL.out] at c12
  go_upto_region 11 with fail
  have hmg : Calls Try.prog 88 #[.agg (sdc (.slice (some ⟨g, off, none⟩) n c) (sent : Int) first most oct (t : SdT)).toArray, .int .i64 ((pl : Int))] X fun e w'' => e = .returned (.agg (ucs t.last M t.bib t.fib 2 (.slice va x.length vc)).toArray) ∧ Below X.heap.size X w'' := hmsg X hb (t : SdT) hl
  clear hmsg
  go_upto_region 13 with fail
  go_wp2_with (first | (refine wpList_side_load_g (.tmp 1) (by rfl) (by rfl) w.heap.size (by rfl) _ hS (by rfl) ?_) | (refine wpList_side_load rfl (.tmp 1) rfl w.heap.size rfl _ hS rfl ?_))
  refine hmg.mono ?_
  rintro e X6 ⟨rfl, hbq⟩
  have hb1 := bthen hb hbq
  have hS1 := hS.below hbq
  have hR1 := hR.below hbq
  have hU1 := hU.below hbq
  clear hS hR hU hb
  have hb := hb1
  have hS := hS1
  have hR := hR1
  have hU := hU1
  clear hb1 hS1 hR1 hU1
  obtain ⟨X7, hX7, hB7, hb7⟩ := unit_box X6 (ucs t.last M t.bib t.fib 2 (.slice va x.length vc))
  have hR0 := Blk.new X6 unit0 69
  have hlt := hS.lt
  have hltU := hU.lt
  clear hmg hbq c1 c12
  go_upto_region 14 with (refine wpList_unit_store rfl (.tmp 7) (.tmp 69) rfl X6.heap.size (ucs t.last M t.bib t.fib 2 (.slice va x.length vc)) unit0 rfl rfl hR0 rfl rfl (ucs_one _ _ _ _ _ _ _ _) ?_)
  rw [← hX7]
  clear hX7 hR0
  have hb1 := bthen hb hb7
  have hS1 := hS.below hb7
  have hR1 := hR.below hb7
  have hU1 := hU.below hb7
  clear hS hR hU hb
  have hb := hb1
  have hS := hS1
  have hR := hR1
  have hU := hU1
  clear hb1 hS1 hR1 hU1
  clear hb7
  have c12 := hS.cell 12 rfl
  replace c12 := c12.trans (show _ = some (Value.int .i64 (pl : Int)) from by rw [← HPL.out])
  have f12 := hS.frozen 12
  go_upto_region 15 with fail
  clear c12 f12
  have hB8 := hB7.other (a := ⟨w.heap.size, 12, none⟩) (by show X6.heap.size ≠ w.heap.size; omega) (.int .i64 ((pl : Int) + 1))
  have hne1 : X6.heap.size ≠ w.heap.size + 1 := by omega
  clear hB7
  have hbX8 := hb.setCell (p := ⟨w.heap.size, 12, none⟩) (Nat.le_refl _) (.int .i64 ((pl : Int) + 1))
  have hSX8 := (hS.set 12 (.int .i64 ((pl : Int) + 1))).as (show _ = sdc (.slice (some ⟨g, off, none⟩) n c) sent first most oct { t with place := (pl : Int) + 1 } from rfl)
  have hRX8 := hR.other (a := ⟨w.heap.size, 12, none⟩) (by show w.heap.size + 1 ≠ w.heap.size; omega) (.int .i64 ((pl : Int) + 1))
  have hUX8 := hU.other (a := ⟨w.heap.size, 12, none⟩) (by show w.heap.size + 1 + 1 ≠ w.heap.size; omega) (.int .i64 ((pl : Int) + 1))
  clear hS hR hU hb
  generalize X7.setCell ⟨w.heap.size, 12, none⟩ (.int .i64 ((pl : Int) + 1)) = X8 at *
  have hb := hbX8
  have hS := hSX8
  have hR := hRX8
  have hU := hUX8
  clear hbX8 hSX8 hRX8 hUX8
  generalize X6.heap.size = b7 at *
  refine wp_region_any (by kernel_rfl) ?_
  change wpAny Try.prog .any _ _ 4 (Array.replicate 4 false) _ _
  obtain ⟨X9, hX9⟩ : ∃ X9 : World, { X8 with drawn := X8.drawn + 1 } = X9 := ⟨_, rfl⟩
  have hb9 : Below X8.heap.size X8 X9 := by rw [← hX9]; exact ⟨rfl, rfl, rfl, Nat.le_refl _, fun _ _ => rfl⟩
  rw [hX9]
  have hB9 := hB8.below hb9
  have hb1 := bthen hb hb9
  have hS1 := hS.below hb9
  have hR1 := hR.below hb9
  have hU1 := hU.below hb9
  clear hS hR hU hb
  have hb := hb1
  have hS := hS1
  have hR := hR1
  have hU := hU1
  clear hb1 hS1 hR1 hU1
  clear hb9 hB8 hX9
  have hU5 := hU.fr (Fr.row1 X9 (w.heap.size + 1) (sdc (.slice (some ⟨g, off, none⟩) n c) (sent : Int) first most oct ({ t with place := (pl : Int) + 1 } : SdT)).toArray) (fun e => by omega)
  have hB10 := hB9.fr (Fr.row1 X9 (w.heap.size + 1) (sdc (.slice (some ⟨g, off, none⟩) n c) (sent : Int) first most oct ({ t with place := (pl : Int) + 1 } : SdT)).toArray) (fun e => by omega)
  have hRes := (Blk.row hR (sdc (.slice (some ⟨g, off, none⟩) n c) (sent : Int) first most oct ({ t with place := (pl : Int) + 1 } : SdT))).fr (Fr.row1 (X9.setRow (w.heap.size + 1) (sdc (.slice (some ⟨g, off, none⟩) n c) (sent : Int) first most oct ({ t with place := (pl : Int) + 1 } : SdT)).toArray) (w.heap.size + 1 + 1) (ucs t.last M t.bib t.fib 2 (.slice va x.length vc)).toArray) (fun e => by omega)
  refine any_two 0 1 (by kernel_rfl) ?_ ?_
  · refine wpOp_value 74 (by rfl) (by rfl) (by rfl) (run_side_load (.tmp 1) (by rfl) w.heap.size (by rfl) _ hS (by rfl)) ?_
    refine any_two 1 2 (by kernel_rfl) ?_ ?_
    · refine wpOp_value 75 (by rfl) (by rfl) (by rfl) (run_unit_load (.tmp 7) (by rfl) b7 (by rfl) _ hB9 (by rfl)) ?_
      refine any_one 2 (by kernel_rfl) ?_
      refine wpOp_side_store (by rfl) (by rfl) (by rfl) (.tmp 2) (.tmp 74) (by rfl) (w.heap.size + 1) (sdc (.slice (some ⟨g, off, none⟩) n c) (sent : Int) first most oct ({ t with place := (pl : Int) + 1 } : SdT)) side0 (by rfl) (by rfl) hR (by rfl) (by rfl) (sdc_one _ _ _ _ _ _ _ _) ?_
      refine any_one 3 (by kernel_rfl) ?_
      refine wpOp_unit_store (by rfl) (by rfl) (by rfl) (.tmp 3) (.tmp 75) (by rfl) (w.heap.size + 1 + 1) (ucs t.last M t.bib t.fib 2 (.slice va x.length vc)) unit0 (by rfl) (by rfl) hU5 (by rfl) (by rfl) (ucs_one _ _ _ _ _ _ _ _) ?_
      refine ⟨by kernel_rfl, ?_⟩
      go_wp2
      refine bodyPost_ret (res_two Try.results87 (by rfl) hRes rfl (by rfl) (Blk.row hU5 _) rfl) rfl ⟨_, HV.out, rfl, ?_⟩
      exact below_row (below_row hb (by omega) _) (by omega) _
    · refine wpOp_side_store (by rfl) (by rfl) (by rfl) (.tmp 2) (.tmp 74) (by rfl) (w.heap.size + 1) (sdc (.slice (some ⟨g, off, none⟩) n c) (sent : Int) first most oct ({ t with place := (pl : Int) + 1 } : SdT)) side0 (by rfl) (by rfl) hR (by rfl) (by rfl) (sdc_one _ _ _ _ _ _ _ _) ?_
      refine any_one 1 (by kernel_rfl) ?_
      refine wpOp_value 75 (by rfl) (by rfl) (by rfl) (run_unit_load (.tmp 7) (by rfl) b7 (by rfl) _ hB10 (by rfl)) ?_
      refine any_one 3 (by kernel_rfl) ?_
      refine wpOp_unit_store (by rfl) (by rfl) (by rfl) (.tmp 3) (.tmp 75) (by rfl) (w.heap.size + 1 + 1) (ucs t.last M t.bib t.fib 2 (.slice va x.length vc)) unit0 (by rfl) (by rfl) hU5 (by rfl) (by rfl) (ucs_one _ _ _ _ _ _ _ _) ?_
      refine ⟨by kernel_rfl, ?_⟩
      go_wp2
      refine bodyPost_ret (res_two Try.results87 (by rfl) hRes rfl (by rfl) (Blk.row hU5 _) rfl) rfl ⟨_, HV.out, rfl, ?_⟩
      exact below_row (below_row hb (by omega) _) (by omega) _
  · refine wpOp_value 75 (by rfl) (by rfl) (by rfl) (run_unit_load (.tmp 7) (by rfl) b7 (by rfl) _ hB9 (by rfl)) ?_
    refine any_one 0 (by kernel_rfl) ?_
    refine wpOp_value 74 (by rfl) (by rfl) (by rfl) (run_side_load (.tmp 1) (by rfl) w.heap.size (by rfl) _ hS (by rfl)) ?_
    refine any_one 2 (by kernel_rfl) ?_
    refine wpOp_side_store (by rfl) (by rfl) (by rfl) (.tmp 2) (.tmp 74) (by rfl) (w.heap.size + 1) (sdc (.slice (some ⟨g, off, none⟩) n c) (sent : Int) first most oct ({ t with place := (pl : Int) + 1 } : SdT)) side0 (by rfl) (by rfl) hR (by rfl) (by rfl) (sdc_one _ _ _ _ _ _ _ _) ?_
    refine any_one 3 (by kernel_rfl) ?_
    refine wpOp_unit_store (by rfl) (by rfl) (by rfl) (.tmp 3) (.tmp 75) (by rfl) (w.heap.size + 1 + 1) (ucs t.last M t.bib t.fib 2 (.slice va x.length vc)) unit0 (by rfl) (by rfl) hU5 (by rfl) (by rfl) (ucs_one _ _ _ _ _ _ _ _) ?_
    refine ⟨by kernel_rfl, ?_⟩
    go_wp2
    refine bodyPost_ret (res_two Try.results87 (by rfl) hRes rfl (by rfl) (Blk.row hU5 _) rfl) rfl ⟨_, HV.out, rfl, ?_⟩
    exact below_row (below_row hb (by omega) _) (by omega) _
set_option maxHeartbeats 4000000 in
set_option maxRecDepth 100000 in
theorem ragain_AfQ {W w : World} {vL : Value} {L : List (List Int)} (hL : RR W w vL L) (sent pl : Nat) (first most oct : Int) (t : SdT) (hpl : t.place = (pl : Int)) (hpb : pl ≤ 1000) (hsl : sent ≤ L.length) (hn : L.length ≤ 1000) (h3 : ∀ x ∈ L, x.length ≤ 300) (hl : 0 ≤ t.last ∧ t.last ≤ 255) (hf : 0 ≤ first ∧ first ≤ 127) (hs : sent = L.length) (hfo : t.force = false) (hps : sent ≤ pl) (hs0 : 0 < sent) (x : List Int) (hx : L[0]? = some x) :
    Calls Try.prog 87 #[.agg (sdc vL sent first most oct t).toArray] w fun e w' => ∃ v, Oct W v x ∧ e = .returned (.tuple #[.agg (sdc vL sent first most oct { t with place := 0 + 1, force := false }).toArray, .agg (ucs t.last ((first + 0) % 128) t.bib t.fib 2 v).toArray]) ∧ Below w.heap.size w w' := by
  obtain ⟨g, off, c, v, rfl, hc, hv⟩ := hL.msg 0 x hx
  have hcap := hL.len
  have hv0 := hv
  obtain ⟨va, vc, rfl, -⟩ := hv
  have HV := Lib.hid hv0
  have hil : 0 < L.length := (List.getElem?_eq_some_iff.1 hx).1
  obtain ⟨X, hX, hS, hR, hU, hb⟩ := side_two w (sdc (.slice (some ⟨g, off, none⟩) L.length c) sent first most oct t)
  have hmsg := fun w' (hb' : Below w.heap.size w w') (t' : SdT) (hl' : 0 ≤ t'.last ∧ t'.last ≤ 255) => rmsg g off L.length c va x.length vc w' (sent : Int) first most oct t' 0 hil ⟨hcap.2.1, hcap.2.2⟩ ((hb'.cell (World.block_lt_of_cell? _ _ hc)).trans hc) hl' hf hn
  obtain ⟨n, hnn⟩ : ∃ n, L.length = n := ⟨_, rfl⟩
  rw [hnn] at hX hS hs hn hmsg ⊢
  have hsi : ¬ (sent : Int) < (n : Int) := by omega
  obtain ⟨M, hM⟩ : ∃ M, (first + ((0 : Nat) : Int)) % 128 = M := ⟨_, rfl⟩
  rw [hM] at hmsg
  have hM' : (first + 0) % 128 = M := hM
  rw [hM']
  have HPL := Lib.hid hpl
  have HFO := Lib.hid hfo
  clear hpl hfo hs
  have c0 := hS.cell 0 rfl
  have c1 := hS.cell 1 rfl
  have hpl0 : ¬ ((pl : Int) < 0) := by omega
  have hps2 : (sent : Int) ≤ (pl : Int) := by omega
  have hps3 : ¬ (sent : Int) ≤ 0 := by omega
  have hw1 : IntKind.i64.wrap (1 : Int) = 1 := wrapH _ (by omega)
  clear hL hc hv0 hx h3 hnn hM hcap hsl
  go_enter Try.func87, Try.ntmps87
  go_upto_region 1 with fail
  rw [← hX]
  clear hX
  have c13 := hS.cell 13 rfl
  rw [HFO.out] at c13
  have c1 := hS.cell 1 rfl
  have c12 := hS.cell 12 rfl
  rw [show (t.place) = (pl : Int) from HPL.out] at c12
  have f12 := hS.frozen 12
  go_upto_region 10 with fail
  clear c12 f12 c1 c13
  have hbX3 := hb.setCell (p := ⟨w.heap.size, 12, none⟩) (Nat.le_refl _) (.int .i64 0)
  have hSX3 := (hS.set 12 (.int .i64 0)).as (show _ = sdc (.slice (some ⟨g, off, none⟩) n c) sent first most oct { t with place := 0 } from rfl)
  have hRX3 := hR.other (a := ⟨w.heap.size, 12, none⟩) (by show w.heap.size + 1 ≠ w.heap.size; omega) (.int .i64 0)
  have hUX3 := hU.other (a := ⟨w.heap.size, 12, none⟩) (by show w.heap.size + 1 + 1 ≠ w.heap.size; omega) (.int .i64 0)
  clear hS hR hU hb
  generalize X.setCell ⟨w.heap.size, 12, none⟩ (.int .i64 0) = X3 at *
  have hb := hbX3
  have hS := hSX3
  have hR := hRX3
  have hU := hUX3
  clear hbX3 hSX3 hRX3 hUX3
  have c13 := hS.cell 13 rfl
  have f13 := hS.frozen 13
  go_upto_region 11 with fail
  clear c13 f13
  have hbX5 := hb.setCell (p := ⟨w.heap.size, 13, none⟩) (Nat.le_refl _) (.bool false)
  have hSX5 := (hS.set 13 (.bool false)).as (show _ = sdc (.slice (some ⟨g, off, none⟩) n c) sent first most oct { t with place := 0, force := false } from rfl)
  have hRX5 := hR.other (a := ⟨w.heap.size, 13, none⟩) (by show w.heap.size + 1 ≠ w.heap.size; omega) (.bool false)
  have hUX5 := hU.other (a := ⟨w.heap.size, 13, none⟩) (by show w.heap.size + 1 + 1 ≠ w.heap.size; omega) (.bool false)
  clear hS hR hU hb
  generalize X3.setCell ⟨w.heap.size, 13, none⟩ (.bool false) = X5 at *
  have hb := hbX5
  have hS := hSX5
  have hR := hRX5
  have hU := hUX5
  clear hbX5 hSX5 hRX5 hUX5
  have c12 := hS.cell 12 rfl
  have c1 := hS.cell 1 rfl
  have hmg : Calls Try.prog 88 #[.agg (sdc (.slice (some ⟨g, off, none⟩) n c) (sent : Int) first most oct ({ t with place := 0, force := false } : SdT)).toArray, .int .i64 (0)] X5 fun e w'' => e = .returned (.agg (ucs t.last M t.bib t.fib 2 (.slice va x.length vc)).toArray) ∧ Below X5.heap.size X5 w'' := hmsg X5 hb ({ t with place := 0, force := false } : SdT) hl
  clear hmsg
  go_upto_region 13 with fail
  go_wp2_with (first | (refine wpList_side_load_g (.tmp 1) (by rfl) (by rfl) w.heap.size (by rfl) _ hS (by rfl) ?_) | (refine wpList_side_load rfl (.tmp 1) rfl w.heap.size rfl _ hS rfl ?_))
  refine hmg.mono ?_
  rintro e X6 ⟨rfl, hbq⟩
  have hb1 := bthen hb hbq
  have hS1 := hS.below hbq
  have hR1 := hR.below hbq
  have hU1 := hU.below hbq
  clear hS hR hU hb
  have hb := hb1
  have hS := hS1
  have hR := hR1
  have hU := hU1
  clear hb1 hS1 hR1 hU1
  obtain ⟨X7, hX7, hB7, hb7⟩ := unit_box X6 (ucs t.last M t.bib t.fib 2 (.slice va x.length vc))
  have hR0 := Blk.new X6 unit0 69
  have hlt := hS.lt
  have hltU := hU.lt
  clear hmg hbq c1 c12
  go_upto_region 14 with (refine wpList_unit_store rfl (.tmp 7) (.tmp 69) rfl X6.heap.size (ucs t.last M t.bib t.fib 2 (.slice va x.length vc)) unit0 rfl rfl hR0 rfl rfl (ucs_one _ _ _ _ _ _ _ _) ?_)
  rw [← hX7]
  clear hX7 hR0
  have hb1 := bthen hb hb7
  have hS1 := hS.below hb7
  have hR1 := hR.below hb7
  have hU1 := hU.below hb7
  clear hS hR hU hb
  have hb := hb1
  have hS := hS1
  have hR := hR1
  have hU := hU1
  clear hb1 hS1 hR1 hU1
  clear hb7
  have c12 := hS.cell 12 rfl
  have f12 := hS.frozen 12
  go_upto_region 15 with fail
  clear c12 f12
  have hB8 := hB7.other (a := ⟨w.heap.size, 12, none⟩) (by show X6.heap.size ≠ w.heap.size; omega) (.int .i64 1)
  have hne1 : X6.heap.size ≠ w.heap.size + 1 := by omega
  clear hB7
  have hbX8 := hb.setCell (p := ⟨w.heap.size, 12, none⟩) (Nat.le_refl _) (.int .i64 1)
  have hSX8 := (hS.set 12 (.int .i64 1)).as (show _ = sdc (.slice (some ⟨g, off, none⟩) n c) sent first most oct { t with place := 1, force := false } from rfl)
  have hRX8 := hR.other (a := ⟨w.heap.size, 12, none⟩) (by show w.heap.size + 1 ≠ w.heap.size; omega) (.int .i64 1)
  have hUX8 := hU.other (a := ⟨w.heap.size, 12, none⟩) (by show w.heap.size + 1 + 1 ≠ w.heap.size; omega) (.int .i64 1)
  clear hS hR hU hb
  generalize X7.setCell ⟨w.heap.size, 12, none⟩ (.int .i64 1) = X8 at *
  have hb := hbX8
  have hS := hSX8
  have hR := hRX8
  have hU := hUX8
  clear hbX8 hSX8 hRX8 hUX8
  generalize X6.heap.size = b7 at *
  refine wp_region_any (by kernel_rfl) ?_
  change wpAny Try.prog .any _ _ 4 (Array.replicate 4 false) _ _
  obtain ⟨X9, hX9⟩ : ∃ X9 : World, { X8 with drawn := X8.drawn + 1 } = X9 := ⟨_, rfl⟩
  have hb9 : Below X8.heap.size X8 X9 := by rw [← hX9]; exact ⟨rfl, rfl, rfl, Nat.le_refl _, fun _ _ => rfl⟩
  rw [hX9]
  have hB9 := hB8.below hb9
  have hb1 := bthen hb hb9
  have hS1 := hS.below hb9
  have hR1 := hR.below hb9
  have hU1 := hU.below hb9
  clear hS hR hU hb
  have hb := hb1
  have hS := hS1
  have hR := hR1
  have hU := hU1
  clear hb1 hS1 hR1 hU1
  clear hb9 hB8 hX9
  have hU5 := hU.fr (Fr.row1 X9 (w.heap.size + 1) (sdc (.slice (some ⟨g, off, none⟩) n c) (sent : Int) first most oct ({ t with place := 1, force := false } : SdT)).toArray) (fun e => by omega)
  have hB10 := hB9.fr (Fr.row1 X9 (w.heap.size + 1) (sdc (.slice (some ⟨g, off, none⟩) n c) (sent : Int) first most oct ({ t with place := 1, force := false } : SdT)).toArray) (fun e => by omega)
  have hRes := (Blk.row hR (sdc (.slice (some ⟨g, off, none⟩) n c) (sent : Int) first most oct ({ t with place := 1, force := false } : SdT))).fr (Fr.row1 (X9.setRow (w.heap.size + 1) (sdc (.slice (some ⟨g, off, none⟩) n c) (sent : Int) first most oct ({ t with place := 1, force := false } : SdT)).toArray) (w.heap.size + 1 + 1) (ucs t.last M t.bib t.fib 2 (.slice va x.length vc)).toArray) (fun e => by omega)
  refine any_two 0 1 (by kernel_rfl) ?_ ?_
  · refine wpOp_value 74 (by rfl) (by rfl) (by rfl) (run_side_load (.tmp 1) (by rfl) w.heap.size (by rfl) _ hS (by rfl)) ?_
    refine any_two 1 2 (by kernel_rfl) ?_ ?_
    · refine wpOp_value 75 (by rfl) (by rfl) (by rfl) (run_unit_load (.tmp 7) (by rfl) b7 (by rfl) _ hB9 (by rfl)) ?_
      refine any_one 2 (by kernel_rfl) ?_
      refine wpOp_side_store (by rfl) (by rfl) (by rfl) (.tmp 2) (.tmp 74) (by rfl) (w.heap.size + 1) (sdc (.slice (some ⟨g, off, none⟩) n c) (sent : Int) first most oct ({ t with place := 1, force := false } : SdT)) side0 (by rfl) (by rfl) hR (by rfl) (by rfl) (sdc_one _ _ _ _ _ _ _ _) ?_
      refine any_one 3 (by kernel_rfl) ?_
      refine wpOp_unit_store (by rfl) (by rfl) (by rfl) (.tmp 3) (.tmp 75) (by rfl) (w.heap.size + 1 + 1) (ucs t.last M t.bib t.fib 2 (.slice va x.length vc)) unit0 (by rfl) (by rfl) hU5 (by rfl) (by rfl) (ucs_one _ _ _ _ _ _ _ _) ?_
      refine ⟨by kernel_rfl, ?_⟩
      go_wp2
      refine bodyPost_ret (res_two Try.results87 (by rfl) hRes rfl (by rfl) (Blk.row hU5 _) rfl) rfl ⟨_, HV.out, rfl, ?_⟩
      exact below_row (below_row hb (by omega) _) (by omega) _
    · refine wpOp_side_store (by rfl) (by rfl) (by rfl) (.tmp 2) (.tmp 74) (by rfl) (w.heap.size + 1) (sdc (.slice (some ⟨g, off, none⟩) n c) (sent : Int) first most oct ({ t with place := 1, force := false } : SdT)) side0 (by rfl) (by rfl) hR (by rfl) (by rfl) (sdc_one _ _ _ _ _ _ _ _) ?_
      refine any_one 1 (by kernel_rfl) ?_
      refine wpOp_value 75 (by rfl) (by rfl) (by rfl) (run_unit_load (.tmp 7) (by rfl) b7 (by rfl) _ hB10 (by rfl)) ?_
      refine any_one 3 (by kernel_rfl) ?_
      refine wpOp_unit_store (by rfl) (by rfl) (by rfl) (.tmp 3) (.tmp 75) (by rfl) (w.heap.size + 1 + 1) (ucs t.last M t.bib t.fib 2 (.slice va x.length vc)) unit0 (by rfl) (by rfl) hU5 (by rfl) (by rfl) (ucs_one _ _ _ _ _ _ _ _) ?_
      refine ⟨by kernel_rfl, ?_⟩
      go_wp2
      refine bodyPost_ret (res_two Try.results87 (by rfl) hRes rfl (by rfl) (Blk.row hU5 _) rfl) rfl ⟨_, HV.out, rfl, ?_⟩
      exact below_row (below_row hb (by omega) _) (by omega) _
  · refine wpOp_value 75 (by rfl) (by rfl) (by rfl) (run_unit_load (.tmp 7) (by rfl) b7 (by rfl) _ hB9 (by rfl)) ?_
    refine any_one 0 (by kernel_rfl) ?_
    refine wpOp_value 74 (by rfl) (by rfl) (by rfl) (run_side_load (.tmp 1) (by rfl) w.heap.size (by rfl) _ hS (by rfl)) ?_
    refine any_one 2 (by kernel_rfl) ?_
    refine wpOp_side_store (by rfl) (by rfl) (by rfl) (.tmp 2) (.tmp 74) (by rfl) (w.heap.size + 1) (sdc (.slice (some ⟨g, off, none⟩) n c) (sent : Int) first most oct ({ t with place := 1, force := false } : SdT)) side0 (by rfl) (by rfl) hR (by rfl) (by rfl) (sdc_one _ _ _ _ _ _ _ _) ?_
    refine any_one 3 (by kernel_rfl) ?_
    refine wpOp_unit_store (by rfl) (by rfl) (by rfl) (.tmp 3) (.tmp 75) (by rfl) (w.heap.size + 1 + 1) (ucs t.last M t.bib t.fib 2 (.slice va x.length vc)) unit0 (by rfl) (by rfl) hU5 (by rfl) (by rfl) (ucs_one _ _ _ _ _ _ _ _) ?_
    refine ⟨by kernel_rfl, ?_⟩
    go_wp2
    refine bodyPost_ret (res_two Try.results87 (by rfl) hRes rfl (by rfl) (Blk.row hU5 _) rfl) rfl ⟨_, HV.out, rfl, ?_⟩
    exact below_row (below_row hb (by omega) _) (by omega) _
end Go.Proofs.Ytadheikcgdhcdaa
