/-
  The reference's next unit of a cyclic way: an old one goes, or none.
-/
import Derived.Test.YtadheikcgdhcdaaRz
namespace Go.Proofs.Ytadheikcgdhcdaa
open Go.RowKit Go.Sort
set_option linter.unusedVariables false
set_option linter.unusedSimpArgs false

set_option maxHeartbeats 4000000 in
set_option maxRecDepth 100000 in
theorem ragain_CF {W w : World} {vL : Value} {L : List (List Int)} (hL : RR W w vL L) (sent pl : Nat) (first most oct : Int) (t : SdT) (hpl : t.place = (pl : Int)) (hpb : pl ≤ 1000) (hsl : sent ≤ L.length) (hn : L.length ≤ 1000) (h3 : ∀ x ∈ L, x.length ≤ 300) (hl : 0 ≤ t.last ∧ t.last ≤ 255) (hf : 0 ≤ first ∧ first ≤ 127) (hs : sent < L.length) (hfit : fitsR sent t.n1 t.n2 L = true) (hfo : t.force = true) (hs0 : sent = 0) :
    Calls Try.prog 87 #[.agg (sdc vL sent first most oct t).toArray] w fun e w' => e = .returned (.tuple #[.agg (sdc vL sent first most oct { t with place := 0, force := false }).toArray, .agg (ucs t.last ((first + (sent : Int) - 1) % 128) t.bib t.fib 0 (.slice none 0 0)).toArray]) ∧ Below w.heap.size w w' := by
  obtain ⟨a, c, rfl⟩ := hL.shape
  have hcap := hL.len
  obtain ⟨X, hX, hS, hR, hU, hb⟩ := side_two w (sdc (.slice a L.length c) sent first most oct t)
  have hfi := fun w' (hb' : Below w.heap.size w w') (t' : SdT) => rfits (hL.below hb') sent first most oct t' hs hn h3
  have hfl := fun w' (t' : SdT) (hl' : 0 ≤ t'.last ∧ t'.last ≤ 255) => rfill a L.length c (sent : Int) first most oct t' w' hl' hf (by omega)
  have hfi1 := fun w' (hb' : Below w.heap.size w w') (t' : SdT) (e1 : t'.n1 = t.n1) (e2 : t'.n2 = t.n2) => (by have := hfi w' hb' t'; rw [e1, e2, hfit] at this; exact this : Calls Try.prog 93 #[.agg (sdc (.slice a L.length c) sent first most oct t').toArray] w' fun e w'' => e = .returned (.bool true) ∧ Below w'.heap.size w' w'')
  obtain ⟨n, hnn⟩ : ∃ n, L.length = n := ⟨_, rfl⟩
  rw [hnn] at hX hS hs hn hfi1 hfl ⊢
  have hsi : (sent : Int) < (n : Int) := by omega
  obtain ⟨M, hM⟩ : ∃ M, (first + (sent : Int) - 1) % 128 = M := ⟨_, rfl⟩
  rw [hM] at hfl ⊢
  have hps2 : (sent : Int) ≤ (pl : Int) := by omega
  have hps3 : (sent : Int) ≤ 0 := by omega
  obtain ⟨SN, hSN⟩ : ∃ SN : Int, (sent : Int) = SN := ⟨_, rfl⟩
  rw [hSN] at hX hS hsi hfl hps2 hps3 ⊢
  rw [hSN] at hfi1
  have HPL := Lib.hid hpl
  have HFO := Lib.hid hfo
  clear hSN hpl hfo hs0
  have c0 := hS.cell 0 rfl
  have c1 := hS.cell 1 rfl
  have hpl0 : ¬ ((pl : Int) < 0) := by omega
  have hw1 : IntKind.i64.wrap (1 : Int) = 1 := wrapH _ (by omega)
  clear hL hfi hfit h3 hnn hM hcap hsl
  go_enter Try.func87, Try.ntmps87
  go_upto_region 1 with fail
  rw [← hX]
  clear hX
  go_wp2_with (first | (refine wpList_side_load_g (.tmp 1) (by rfl) (by rfl) w.heap.size (by rfl) _ hS (by rfl) ?_) | (refine wpList_side_load rfl (.tmp 1) rfl w.heap.size rfl _ hS rfl ?_))
  refine (hfi1 X hb t rfl rfl).mono ?_
  rintro e X1 ⟨rfl, hbq⟩
  have hb1 := bthen hb hbq
  have hS1 := hS.below hbq
  have hR1 := hR.below hbq
  have hU1 := hU.below hbq
  clear hS hR hU hb hbq c0 c1
  have hb := hb1
  have hS := hS1
  have hR := hR1
  have hU := hU1
  clear hb1 hS1 hR1 hU1
  have c13 := hS.cell 13 rfl
  rw [HFO.out] at c13
  have c1 := hS.cell 1 rfl
  have c12 := hS.cell 12 rfl
  rw [show (t.place) = (pl : Int) from HPL.out] at c12
  have f12 := hS.frozen 12
  go_upto_region 10 with fail
  clear c12 f12 c1 c13
  have hbX3 := hb.setCell (p := ⟨w.heap.size, 12, none⟩) (Nat.le_refl _) (.int .i64 0)
  have hSX3 := (hS.set 12 (.int .i64 0)).as (show _ = sdc (.slice a n c) SN first most oct { t with place := 0 } from rfl)
  have hRX3 := hR.other (a := ⟨w.heap.size, 12, none⟩) (by show w.heap.size + 1 ≠ w.heap.size; omega) (.int .i64 0)
  have hUX3 := hU.other (a := ⟨w.heap.size, 12, none⟩) (by show w.heap.size + 1 + 1 ≠ w.heap.size; omega) (.int .i64 0)
  clear hS hR hU hb
  generalize X1.setCell ⟨w.heap.size, 12, none⟩ (.int .i64 0) = X3 at *
  have hb := hbX3
  have hS := hSX3
  have hR := hRX3
  have hU := hUX3
  clear hbX3 hSX3 hRX3 hUX3
  have c13 := hS.cell 13 rfl
  have f13 := hS.frozen 13
  go_wp2_with (first | (refine wpList_side_load_g (.tmp 1) (by rfl) (by rfl) w.heap.size (by rfl) _ hS (by rfl) ?_) | (refine wpList_side_load rfl (.tmp 1) rfl w.heap.size rfl _ hS rfl ?_))
  refine (hfi1 X3 hb ({ t with place := 0 } : SdT) rfl rfl).mono ?_
  rintro e X4 ⟨rfl, hbq⟩
  have hb1 := bthen hb hbq
  have hS1 := hS.below hbq
  have hR1 := hR.below hbq
  have hU1 := hU.below hbq
  clear hS hR hU hb hbq c13 f13
  have hb := hb1
  have hS := hS1
  have hR := hR1
  have hU := hU1
  clear hb1 hS1 hR1 hU1
  have c13 := hS.cell 13 rfl
  have f13 := hS.frozen 13
  go_upto_region 11 with fail
  clear c13 f13
  have hbX5 := hb.setCell (p := ⟨w.heap.size, 13, none⟩) (Nat.le_refl _) (.bool false)
  have hSX5 := (hS.set 13 (.bool false)).as (show _ = sdc (.slice a n c) SN first most oct { t with place := 0, force := false } from rfl)
  have hRX5 := hR.other (a := ⟨w.heap.size, 13, none⟩) (by show w.heap.size + 1 ≠ w.heap.size; omega) (.bool false)
  have hUX5 := hU.other (a := ⟨w.heap.size, 13, none⟩) (by show w.heap.size + 1 + 1 ≠ w.heap.size; omega) (.bool false)
  clear hS hR hU hb
  generalize X4.setCell ⟨w.heap.size, 13, none⟩ (.bool false) = X5 at *
  have hb := hbX5
  have hS := hSX5
  have hR := hRX5
  have hU := hUX5
  clear hbX5 hSX5 hRX5 hUX5
  have c12 := hS.cell 12 rfl
  have c1 := hS.cell 1 rfl
  have c61 : ∀ d os, Calls Try.prog 61 #[.agg (sdc (.slice a n c) SN first most oct ({ t with place := 0, force := false } : SdT)).toArray] (grow (redrawn X5 d) os) fun e w'' => e = .returned (.agg (ucs t.last M t.bib t.fib 0 (.slice none 0 0)).toArray) ∧ ∃ p : Regrown, w'' = grow (redrawn X5 p.d) p.os := fun d os => Calls.regrown_of (hfl (grow (redrawn X5 d) os) ({ t with place := 0, force := false } : SdT) hl)
  clear hfl
  go_upto_region 12 with fail
  have hBq := blk_regrown hS
  refine wp_region_below_tail 3 2 (by rfl) (by kernel_rfl) (by kernel_rfl) ?_
  simp only [List.take_succ_cons, List.take_zero]
  repeat (first | (refine WQ.load (.tmp 1) (by rfl) (by rfl) w.heap.size (by rfl) _ hBq (by rfl) ?_) | (refine WQ.step (fun K hK => ?_); go_simp; first | (refine hK _ ?_; clear hK K) | (apply Exists.intro; refine ⟨fun _ => ?_, hK _ ?_⟩; (go_at_call 61; exact c61 _ _); clear hK K)))
  refine WQ.nil ?_
  intro X9 hb9
  have hb1 := bthen hb hb9
  have hS1 := hS.below hb9
  have hR1 := hR.below hb9
  have hU1 := hU.below hb9
  clear hS hR hU hb
  have hb := hb1
  have hS := hS1
  have hR := hR1
  have hU := hU1
  clear hb1 hS1 hR1 hU1
  clear hBq hb9 c61
  have hU5 := hU.fr (Fr.row1 X9 (w.heap.size + 1) (sdc (.slice a n c) SN first most oct ({ t with place := 0, force := false } : SdT)).toArray) (fun e => by omega)
  have hRes := (Blk.row hR (sdc (.slice a n c) SN first most oct ({ t with place := 0, force := false } : SdT))).fr (Fr.row1 (X9.setRow (w.heap.size + 1) (sdc (.slice a n c) SN first most oct ({ t with place := 0, force := false } : SdT)).toArray) (w.heap.size + 1 + 1) (ucs t.last M t.bib t.fib 0 (.slice none 0 0)).toArray) (fun e => by omega)
  refine two_seq 3 4 (by kernel_rfl) (by kernel_rfl) (by kernel_rfl) ?_
  refine wpOp_side_store (by rfl) (by rfl) (by rfl) (.tmp 2) (.tmp 63) (by rfl) (w.heap.size + 1) (sdc (.slice a n c) SN first most oct ({ t with place := 0, force := false } : SdT)) side0 (by rfl) (by rfl) hR (by rfl) (by rfl) (sdc_one _ _ _ _ _ _ _ _) ?_
  refine wpOp_unit_store (by rfl) (by rfl) (by rfl) (.tmp 3) (.tmp 65) (by rfl) (w.heap.size + 1 + 1) (ucs t.last M t.bib t.fib 0 (.slice none 0 0)) unit0 (by rfl) (by rfl) hU5 (by rfl) (by rfl) (ucs_one _ _ _ _ _ _ _ _) ?_
  go_wp2
  refine bodyPost_ret (res_two Try.results87 (by rfl) hRes rfl (by rfl) (Blk.row hU5 _) rfl) rfl ⟨rfl, ?_⟩
  exact below_row (below_row hb (by omega) _) (by omega) _
set_option maxHeartbeats 4000000 in
set_option maxRecDepth 100000 in
theorem ragain_AtF {W w : World} {vL : Value} {L : List (List Int)} (hL : RR W w vL L) (sent pl : Nat) (first most oct : Int) (t : SdT) (hpl : t.place = (pl : Int)) (hpb : pl ≤ 1000) (hsl : sent ≤ L.length) (hn : L.length ≤ 1000) (h3 : ∀ x ∈ L, x.length ≤ 300) (hl : 0 ≤ t.last ∧ t.last ≤ 255) (hf : 0 ≤ first ∧ first ≤ 127) (hs : sent = L.length) (hfo : t.force = true) (hs0 : sent = 0) :
    Calls Try.prog 87 #[.agg (sdc vL sent first most oct t).toArray] w fun e w' => e = .returned (.tuple #[.agg (sdc vL sent first most oct { t with place := 0, force := false }).toArray, .agg (ucs t.last ((first + (sent : Int) - 1) % 128) t.bib t.fib 0 (.slice none 0 0)).toArray]) ∧ Below w.heap.size w w' := by
  obtain ⟨a, c, rfl⟩ := hL.shape
  have hcap := hL.len
  obtain ⟨X, hX, hS, hR, hU, hb⟩ := side_two w (sdc (.slice a L.length c) sent first most oct t)
  have hfl := fun w' (t' : SdT) (hl' : 0 ≤ t'.last ∧ t'.last ≤ 255) => rfill a L.length c (sent : Int) first most oct t' w' hl' hf (by omega)
  obtain ⟨n, hnn⟩ : ∃ n, L.length = n := ⟨_, rfl⟩
  rw [hnn] at hX hS hs hn hfl ⊢
  have hsi : ¬ (sent : Int) < (n : Int) := by omega
  obtain ⟨M, hM⟩ : ∃ M, (first + (sent : Int) - 1) % 128 = M := ⟨_, rfl⟩
  rw [hM] at hfl ⊢
  have hps2 : (sent : Int) ≤ (pl : Int) := by omega
  have hps3 : (sent : Int) ≤ 0 := by omega
  obtain ⟨SN, hSN⟩ : ∃ SN : Int, (sent : Int) = SN := ⟨_, rfl⟩
  rw [hSN] at hX hS hsi hfl hps2 hps3 ⊢
  have HPL := Lib.hid hpl
  have HFO := Lib.hid hfo
  clear hSN hpl hfo hs hs0
  have c0 := hS.cell 0 rfl
  have c1 := hS.cell 1 rfl
  have hpl0 : ¬ ((pl : Int) < 0) := by omega
  have hw1 : IntKind.i64.wrap (1 : Int) = 1 := wrapH _ (by omega)
  clear hL h3 hnn hM hcap hsl
  go_enter Try.func87, Try.ntmps87
  go_upto_region 1 with fail
  rw [← hX]
  clear hX
  have c13 := hS.cell 13 rfl
  rw [HFO.out] at c13
  have c1 := hS.cell 1 rfl
  have c12 := hS.cell 12 rfl
  rw [show (t.place) = (pl : Int) from HPL.out] at c12
  have f12 := hS.frozen 12
  go_upto_region 10 with fail
  clear c12 f12 c1 c13
  have hbX3 := hb.setCell (p := ⟨w.heap.size, 12, none⟩) (Nat.le_refl _) (.int .i64 0)
  have hSX3 := (hS.set 12 (.int .i64 0)).as (show _ = sdc (.slice a n c) SN first most oct { t with place := 0 } from rfl)
  have hRX3 := hR.other (a := ⟨w.heap.size, 12, none⟩) (by show w.heap.size + 1 ≠ w.heap.size; omega) (.int .i64 0)
  have hUX3 := hU.other (a := ⟨w.heap.size, 12, none⟩) (by show w.heap.size + 1 + 1 ≠ w.heap.size; omega) (.int .i64 0)
  clear hS hR hU hb
  generalize X.setCell ⟨w.heap.size, 12, none⟩ (.int .i64 0) = X3 at *
  have hb := hbX3
  have hS := hSX3
  have hR := hRX3
  have hU := hUX3
  clear hbX3 hSX3 hRX3 hUX3
  have c13 := hS.cell 13 rfl
  have f13 := hS.frozen 13
  go_upto_region 11 with fail
  clear c13 f13
  have hbX5 := hb.setCell (p := ⟨w.heap.size, 13, none⟩) (Nat.le_refl _) (.bool false)
  have hSX5 := (hS.set 13 (.bool false)).as (show _ = sdc (.slice a n c) SN first most oct { t with place := 0, force := false } from rfl)
  have hRX5 := hR.other (a := ⟨w.heap.size, 13, none⟩) (by show w.heap.size + 1 ≠ w.heap.size; omega) (.bool false)
  have hUX5 := hU.other (a := ⟨w.heap.size, 13, none⟩) (by show w.heap.size + 1 + 1 ≠ w.heap.size; omega) (.bool false)
  clear hS hR hU hb
  generalize X3.setCell ⟨w.heap.size, 13, none⟩ (.bool false) = X5 at *
  have hb := hbX5
  have hS := hSX5
  have hR := hRX5
  have hU := hUX5
  clear hbX5 hSX5 hRX5 hUX5
  have c12 := hS.cell 12 rfl
  have c1 := hS.cell 1 rfl
  have c61 : ∀ d os, Calls Try.prog 61 #[.agg (sdc (.slice a n c) SN first most oct ({ t with place := 0, force := false } : SdT)).toArray] (grow (redrawn X5 d) os) fun e w'' => e = .returned (.agg (ucs t.last M t.bib t.fib 0 (.slice none 0 0)).toArray) ∧ ∃ p : Regrown, w'' = grow (redrawn X5 p.d) p.os := fun d os => Calls.regrown_of (hfl (grow (redrawn X5 d) os) ({ t with place := 0, force := false } : SdT) hl)
  clear hfl
  go_upto_region 12 with fail
  have hBq := blk_regrown hS
  refine wp_region_below_tail 3 2 (by rfl) (by kernel_rfl) (by kernel_rfl) ?_
  simp only [List.take_succ_cons, List.take_zero]
  repeat (first | (refine WQ.load (.tmp 1) (by rfl) (by rfl) w.heap.size (by rfl) _ hBq (by rfl) ?_) | (refine WQ.step (fun K hK => ?_); go_simp; first | (refine hK _ ?_; clear hK K) | (apply Exists.intro; refine ⟨fun _ => ?_, hK _ ?_⟩; (go_at_call 61; exact c61 _ _); clear hK K)))
  refine WQ.nil ?_
  intro X9 hb9
  have hb1 := bthen hb hb9
  have hS1 := hS.below hb9
  have hR1 := hR.below hb9
  have hU1 := hU.below hb9
  clear hS hR hU hb
  have hb := hb1
  have hS := hS1
  have hR := hR1
  have hU := hU1
  clear hb1 hS1 hR1 hU1
  clear hBq hb9 c61
  have hU5 := hU.fr (Fr.row1 X9 (w.heap.size + 1) (sdc (.slice a n c) SN first most oct ({ t with place := 0, force := false } : SdT)).toArray) (fun e => by omega)
  have hRes := (Blk.row hR (sdc (.slice a n c) SN first most oct ({ t with place := 0, force := false } : SdT))).fr (Fr.row1 (X9.setRow (w.heap.size + 1) (sdc (.slice a n c) SN first most oct ({ t with place := 0, force := false } : SdT)).toArray) (w.heap.size + 1 + 1) (ucs t.last M t.bib t.fib 0 (.slice none 0 0)).toArray) (fun e => by omega)
  refine two_seq 3 4 (by kernel_rfl) (by kernel_rfl) (by kernel_rfl) ?_
  refine wpOp_side_store (by rfl) (by rfl) (by rfl) (.tmp 2) (.tmp 63) (by rfl) (w.heap.size + 1) (sdc (.slice a n c) SN first most oct ({ t with place := 0, force := false } : SdT)) side0 (by rfl) (by rfl) hR (by rfl) (by rfl) (sdc_one _ _ _ _ _ _ _ _) ?_
  refine wpOp_unit_store (by rfl) (by rfl) (by rfl) (.tmp 3) (.tmp 65) (by rfl) (w.heap.size + 1 + 1) (ucs t.last M t.bib t.fib 0 (.slice none 0 0)) unit0 (by rfl) (by rfl) hU5 (by rfl) (by rfl) (ucs_one _ _ _ _ _ _ _ _) ?_
  go_wp2
  refine bodyPost_ret (res_two Try.results87 (by rfl) hRes rfl (by rfl) (Blk.row hU5 _) rfl) rfl ⟨rfl, ?_⟩
  exact below_row (below_row hb (by omega) _) (by omega) _
set_option maxHeartbeats 4000000 in
set_option maxRecDepth 100000 in
theorem ragain_AfF {W w : World} {vL : Value} {L : List (List Int)} (hL : RR W w vL L) (sent pl : Nat) (first most oct : Int) (t : SdT) (hpl : t.place = (pl : Int)) (hpb : pl ≤ 1000) (hsl : sent ≤ L.length) (hn : L.length ≤ 1000) (h3 : ∀ x ∈ L, x.length ≤ 300) (hl : 0 ≤ t.last ∧ t.last ≤ 255) (hf : 0 ≤ first ∧ first ≤ 127) (hs : sent = L.length) (hfo : t.force = false) (hs0 : sent = 0) :
    Calls Try.prog 87 #[.agg (sdc vL sent first most oct t).toArray] w fun e w' => e = .returned (.tuple #[.agg (sdc vL sent first most oct { t with place := 0, force := false }).toArray, .agg (ucs t.last ((first + (sent : Int) - 1) % 128) t.bib t.fib 0 (.slice none 0 0)).toArray]) ∧ Below w.heap.size w w' := by
  obtain ⟨a, c, rfl⟩ := hL.shape
  have hcap := hL.len
  obtain ⟨X, hX, hS, hR, hU, hb⟩ := side_two w (sdc (.slice a L.length c) sent first most oct t)
  have hfl := fun w' (t' : SdT) (hl' : 0 ≤ t'.last ∧ t'.last ≤ 255) => rfill a L.length c (sent : Int) first most oct t' w' hl' hf (by omega)
  obtain ⟨n, hnn⟩ : ∃ n, L.length = n := ⟨_, rfl⟩
  rw [hnn] at hX hS hs hn hfl ⊢
  have hsi : ¬ (sent : Int) < (n : Int) := by omega
  obtain ⟨M, hM⟩ : ∃ M, (first + (sent : Int) - 1) % 128 = M := ⟨_, rfl⟩
  rw [hM] at hfl ⊢
  have hps2 : (sent : Int) ≤ (pl : Int) := by omega
  have hps3 : (sent : Int) ≤ 0 := by omega
  obtain ⟨SN, hSN⟩ : ∃ SN : Int, (sent : Int) = SN := ⟨_, rfl⟩
  rw [hSN] at hX hS hsi hfl hps2 hps3 ⊢
  have HPL := Lib.hid hpl
  have HFO := Lib.hid hfo
  clear hSN hpl hfo hs hs0
  have c0 := hS.cell 0 rfl
  have c1 := hS.cell 1 rfl
  have hpl0 : ¬ ((pl : Int) < 0) := by omega
  have hw1 : IntKind.i64.wrap (1 : Int) = 1 := wrapH _ (by omega)
  clear hL h3 hnn hM hcap hsl
  go_enter Try.func87, Try.ntmps87
  go_upto_region 1 with fail
  rw [← hX]
  clear hX
  have c13 := hS.cell 13 rfl
  rw [HFO.out] at c13
  have c1 := hS.cell 1 rfl
  have c12 := hS.cell 12 rfl
  rw [show (t.place) = (pl : Int) from HPL.out] at c12
  have f12 := hS.frozen 12
  go_upto_region 10 with fail
  clear c12 f12 c1 c13
  have hbX3 := hb.setCell (p := ⟨w.heap.size, 12, none⟩) (Nat.le_refl _) (.int .i64 0)
  have hSX3 := (hS.set 12 (.int .i64 0)).as (show _ = sdc (.slice a n c) SN first most oct { t with place := 0 } from rfl)
  have hRX3 := hR.other (a := ⟨w.heap.size, 12, none⟩) (by show w.heap.size + 1 ≠ w.heap.size; omega) (.int .i64 0)
  have hUX3 := hU.other (a := ⟨w.heap.size, 12, none⟩) (by show w.heap.size + 1 + 1 ≠ w.heap.size; omega) (.int .i64 0)
  clear hS hR hU hb
  generalize X.setCell ⟨w.heap.size, 12, none⟩ (.int .i64 0) = X3 at *
  have hb := hbX3
  have hS := hSX3
  have hR := hRX3
  have hU := hUX3
  clear hbX3 hSX3 hRX3 hUX3
  have c13 := hS.cell 13 rfl
  have f13 := hS.frozen 13
  go_upto_region 11 with fail
  clear c13 f13
  have hbX5 := hb.setCell (p := ⟨w.heap.size, 13, none⟩) (Nat.le_refl _) (.bool false)
  have hSX5 := (hS.set 13 (.bool false)).as (show _ = sdc (.slice a n c) SN first most oct { t with place := 0, force := false } from rfl)
  have hRX5 := hR.other (a := ⟨w.heap.size, 13, none⟩) (by show w.heap.size + 1 ≠ w.heap.size; omega) (.bool false)
  have hUX5 := hU.other (a := ⟨w.heap.size, 13, none⟩) (by show w.heap.size + 1 + 1 ≠ w.heap.size; omega) (.bool false)
  clear hS hR hU hb
  generalize X3.setCell ⟨w.heap.size, 13, none⟩ (.bool false) = X5 at *
  have hb := hbX5
  have hS := hSX5
  have hR := hRX5
  have hU := hUX5
  clear hbX5 hSX5 hRX5 hUX5
  have c12 := hS.cell 12 rfl
  have c1 := hS.cell 1 rfl
  have c61 : ∀ d os, Calls Try.prog 61 #[.agg (sdc (.slice a n c) SN first most oct ({ t with place := 0, force := false } : SdT)).toArray] (grow (redrawn X5 d) os) fun e w'' => e = .returned (.agg (ucs t.last M t.bib t.fib 0 (.slice none 0 0)).toArray) ∧ ∃ p : Regrown, w'' = grow (redrawn X5 p.d) p.os := fun d os => Calls.regrown_of (hfl (grow (redrawn X5 d) os) ({ t with place := 0, force := false } : SdT) hl)
  clear hfl
  go_upto_region 12 with fail
  have hBq := blk_regrown hS
  refine wp_region_below_tail 3 2 (by rfl) (by kernel_rfl) (by kernel_rfl) ?_
  simp only [List.take_succ_cons, List.take_zero]
  repeat (first | (refine WQ.load (.tmp 1) (by rfl) (by rfl) w.heap.size (by rfl) _ hBq (by rfl) ?_) | (refine WQ.step (fun K hK => ?_); go_simp; first | (refine hK _ ?_; clear hK K) | (apply Exists.intro; refine ⟨fun _ => ?_, hK _ ?_⟩; (go_at_call 61; exact c61 _ _); clear hK K)))
  refine WQ.nil ?_
  intro X9 hb9
  have hb1 := bthen hb hb9
  have hS1 := hS.below hb9
  have hR1 := hR.below hb9
  have hU1 := hU.below hb9
  clear hS hR hU hb
  have hb := hb1
  have hS := hS1
  have hR := hR1
  have hU := hU1
  clear hb1 hS1 hR1 hU1
  clear hBq hb9 c61
  have hU5 := hU.fr (Fr.row1 X9 (w.heap.size + 1) (sdc (.slice a n c) SN first most oct ({ t with place := 0, force := false } : SdT)).toArray) (fun e => by omega)
  have hRes := (Blk.row hR (sdc (.slice a n c) SN first most oct ({ t with place := 0, force := false } : SdT))).fr (Fr.row1 (X9.setRow (w.heap.size + 1) (sdc (.slice a n c) SN first most oct ({ t with place := 0, force := false } : SdT)).toArray) (w.heap.size + 1 + 1) (ucs t.last M t.bib t.fib 0 (.slice none 0 0)).toArray) (fun e => by omega)
  refine two_seq 3 4 (by kernel_rfl) (by kernel_rfl) (by kernel_rfl) ?_
  refine wpOp_side_store (by rfl) (by rfl) (by rfl) (.tmp 2) (.tmp 63) (by rfl) (w.heap.size + 1) (sdc (.slice a n c) SN first most oct ({ t with place := 0, force := false } : SdT)) side0 (by rfl) (by rfl) hR (by rfl) (by rfl) (sdc_one _ _ _ _ _ _ _ _) ?_
  refine wpOp_unit_store (by rfl) (by rfl) (by rfl) (.tmp 3) (.tmp 65) (by rfl) (w.heap.size + 1 + 1) (ucs t.last M t.bib t.fib 0 (.slice none 0 0)) unit0 (by rfl) (by rfl) hU5 (by rfl) (by rfl) (ucs_one _ _ _ _ _ _ _ _) ?_
  go_wp2
  refine bodyPost_ret (res_two Try.results87 (by rfl) hRes rfl (by rfl) (Blk.row hU5 _) rfl) rfl ⟨rfl, ?_⟩
  exact below_row (below_row hb (by omega) _) (by omega) _
end Go.Proofs.Ytadheikcgdhcdaa
