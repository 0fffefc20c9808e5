/-
  The reference's side of a cyclic way: a unit's answer, a unit's message, a new side.
-/
import Derived.Test.YtadheikcgdhcdaaHpP
namespace Go.Proofs.Ytadheikcgdhcdaa
open Go.RowKit
set_option linter.unusedVariables false
set_option linter.unusedSimpArgs false

/-- What a cyclic side has. -/
def tV (n1 n2 last place : Int) (force q0 q1 : Bool) : SdT := ⟨true, n1, n2, true, true, last, false, place, force, q0, q1, false, false⟩
theorem results_cell_tmps {fn : Func} {p u v : Tmp} {ty : TypeId} (h : fn.results = #[.cell p ty, .tmp u, .tmp v]) (tmps : Array Value) (P : Program) (w : World) :
    (results fn tmps).run P w =
      ((asAddr (tmps.getD p undef)).run P w).andThen fun a w₁ => ((loadVar ty a).run P w₁).andThen fun x w₂ => .ok (.tuple #[x, tmps.getD u undef, tmps.getD v undef]) w₂ := by
  simp only [results, h]
  simp [Sem.run_bind, Result.andThen]
theorem res_row3 {fn : Func} {p u v : Tmp} (h : fn.results = #[.cell p 51, .tmp u, .tmp v]) {tmps : Array Value} {w : World} {g : Nat} {cs : List Value}
    (hp : tmps.getD p undef = .pointer (some ⟨g, 0, none⟩)) (hg : Blk w g cs 51) (hi : cs.length = 18) :
    (results fn tmps).run Try.prog w = .ok (.tuple #[.agg cs.toArray, tmps.getD u undef, tmps.getD v undef]) w := by
  have hl := run_loadVar_row (P := Try.prog) w g 51 51 cs.toArray (0, 0) _ hg Try.underlying51 rfl (by rw [info51]; simp [hi])
  rw [results_cell_tmps h, hp]
  have ha : (asAddr (.pointer (some ⟨g, 0, none⟩))).run Try.prog w = .ok ⟨g, 0, none⟩ w := rfl
  rw [ha, Result.andThen_ok, hl, Result.andThen_ok]
/-- A side and a unit that came in, and the block of the side that goes out. -/
theorem ans_in (w : World) (cs us : List Value) : ∃ X, X = ((w.alloc (.cells cs.toArray 51)).alloc (.cells us.toArray 69)).alloc (.cells #[.slice none 0 0, .int .i64 0, .int .i64 0, .int .i64 0, .int .i64 0, .bool false, .int .i64 0, .int .i64 0, .bool false, .bool false, .int .i64 0, .bool false, .int .i64 0, .bool false, .bool false, .bool false, .bool false, .bool false] 51) ∧ Blk X w.heap.size cs 51 ∧ Blk X (w.heap.size + 1) us 69 ∧ Blk X (w.heap.size + 1 + 1) side0 51 ∧ Below w.heap.size w X := by
  refine ⟨_, rfl, Blk.alloc (Blk.alloc (Blk.new w cs 51) _) _, ?_, ?_, (((Below.refl _ _).alloc (Nat.le_refl _) _).alloc (by simp) _).alloc (by simp; omega) _⟩
  · have := Blk.alloc (Blk.new (w.alloc (.cells cs.toArray 51)) us 69) (.cells side0.toArray 51)
    rw [World.size_alloc] at this
    exact this
  · have := Blk.new ((w.alloc (.cells cs.toArray 51)).alloc (.cells us.toArray 69)) side0 51
    rw [World.size_alloc, World.size_alloc] at this
    exact this
set_option maxHeartbeats 2000000 in
set_option maxRecDepth 100000 in
/-- It may be no answer. -/
theorem ranswer_no (a : Option Addr) (n c : Nat) (sent : Nat) (f m o n1 n2 last pl : Int) (force q0 q1 : Bool) (us : List Value) (bsn : Int) (w : World) (hu0 : us[0]? = some (.int .u8 bsn)) (hn : 0 ≤ bsn ∧ bsn ≤ 255) (hf : 0 ≤ f ∧ f ≤ 127) (hk : behI f sent bsn = -1) :
    Calls Try.prog 57 #[.agg (sdc (.slice a n c) sent f m o (tV n1 n2 last pl force q0 q1)).toArray, .agg us.toArray] w fun e w' => e = .returned (.tuple #[.agg (sdc (.slice a n c) sent f m o (tV n1 n2 last pl force q1 true)).toArray, .int .i64 0, .int .i64 (if (q0 || q1) = true then 10 else 0)]) ∧ Below w.heap.size w w' := by
  obtain ⟨X, hX, hS, hU, hR, hb⟩ := ans_in w (sdc (.slice a n c) sent f m o (tV n1 n2 last pl force q0 q1)) us
  have hbe := rbehind a n c sent f m o (tV n1 n2 last pl force q0 q1) bsn X (by omega) hf
  rw [hk] at hbe
  have u0 := hU.cell 0 hu0
  clear hu0 hk
  cases q0 <;> cases q1
  all_goals
    go_enter Try.func57, Try.ntmps57
    go_upto_region 1 with fail
    rw [← hX]
    clear hX
    go_wp2_with (refine wpList_side_load rfl (.tmp 2) rfl w.heap.size rfl _ hS rfl ?_)
    refine hbe.mono ?_
    rintro e X1 ⟨rfl, hb1⟩
    have hS1 := hS.below hb1
    have hR1 := hR.below hb1
    have hb2 := bthen hb hb1
    clear hS hR hb hb1 hbe hU u0
    have c14 := hS1.cell 14 rfl
    have c15 := hS1.cell 15 rfl
    have f14 := hS1.frozen 14
    have f15 := hS1.frozen 15
    dsimp only [tV] at c14 c15
    go_upto_region 5 with fail
    clear c14 c15 f14 f15
  · have hS2 : Blk ((X1.setCell ⟨w.heap.size, 14, none⟩ (.bool false)).setCell ⟨w.heap.size, 15, none⟩ (.bool true)) w.heap.size (sdc (.slice a n c) sent f m o (tV n1 n2 last pl force false true)) 51 := ((hS1.set 14 (.bool false)).set 15 (.bool true)).as rfl
    have hR2 : Blk ((X1.setCell ⟨w.heap.size, 14, none⟩ (.bool false)).setCell ⟨w.heap.size, 15, none⟩ (.bool true)) (w.heap.size + 1 + 1) side0 51 := (hR1.other (a := ⟨w.heap.size, 14, none⟩) (by show w.heap.size + 1 + 1 ≠ w.heap.size; omega) _).other (a := ⟨w.heap.size, 15, none⟩) (by show w.heap.size + 1 + 1 ≠ w.heap.size; omega) _
    have hb3 := (hb2.setCell (p := ⟨w.heap.size, 14, none⟩) (Nat.le_refl _) (.bool false)).setCell (p := ⟨w.heap.size, 15, none⟩) (Nat.le_refl _) (.bool true)
    clear hS1 hR1 hb2
    generalize (X1.setCell ⟨w.heap.size, 14, none⟩ (.bool false)).setCell ⟨w.heap.size, 15, none⟩ (.bool true) = X2 at *
    go_wp2_with (first | (refine wpList_side_load rfl (.tmp 2) rfl w.heap.size rfl _ hS2 rfl ?_) | (refine wpList_side_store rfl (.tmp 4) (.tmp 34) rfl (w.heap.size + 1 + 1) _ _ rfl rfl hR2 rfl rfl (sdc_one _ _ _ _ _ _ _ _) ?_))
    refine bodyPost_ret (res_row3 Try.results57 (by rfl) (Blk.row hR2 _) rfl) rfl ⟨rfl, ?_⟩
    exact below_row hb3 (by omega) _
  · have hS2 : Blk ((X1.setCell ⟨w.heap.size, 14, none⟩ (.bool true)).setCell ⟨w.heap.size, 15, none⟩ (.bool true)) w.heap.size (sdc (.slice a n c) sent f m o (tV n1 n2 last pl force true true)) 51 := ((hS1.set 14 (.bool true)).set 15 (.bool true)).as rfl
    have hR2 : Blk ((X1.setCell ⟨w.heap.size, 14, none⟩ (.bool true)).setCell ⟨w.heap.size, 15, none⟩ (.bool true)) (w.heap.size + 1 + 1) side0 51 := (hR1.other (a := ⟨w.heap.size, 14, none⟩) (by show w.heap.size + 1 + 1 ≠ w.heap.size; omega) _).other (a := ⟨w.heap.size, 15, none⟩) (by show w.heap.size + 1 + 1 ≠ w.heap.size; omega) _
    have hb3 := (hb2.setCell (p := ⟨w.heap.size, 14, none⟩) (Nat.le_refl _) (.bool true)).setCell (p := ⟨w.heap.size, 15, none⟩) (Nat.le_refl _) (.bool true)
    clear hS1 hR1 hb2
    generalize (X1.setCell ⟨w.heap.size, 14, none⟩ (.bool true)).setCell ⟨w.heap.size, 15, none⟩ (.bool true) = X2 at *
    go_wp2_with (first | (refine wpList_side_load rfl (.tmp 2) rfl w.heap.size rfl _ hS2 rfl ?_) | (refine wpList_side_store rfl (.tmp 4) (.tmp 32) rfl (w.heap.size + 1 + 1) _ _ rfl rfl hR2 rfl rfl (sdc_one _ _ _ _ _ _ _ _) ?_))
    refine bodyPost_ret (res_row3 Try.results57 (by rfl) (Blk.row hR2 _) rfl) rfl ⟨rfl, ?_⟩
    exact below_row hb3 (by omega) _
  · have hS2 : Blk ((X1.setCell ⟨w.heap.size, 14, none⟩ (.bool false)).setCell ⟨w.heap.size, 15, none⟩ (.bool true)) w.heap.size (sdc (.slice a n c) sent f m o (tV n1 n2 last pl force false true)) 51 := ((hS1.set 14 (.bool false)).set 15 (.bool true)).as rfl
    have hR2 : Blk ((X1.setCell ⟨w.heap.size, 14, none⟩ (.bool false)).setCell ⟨w.heap.size, 15, none⟩ (.bool true)) (w.heap.size + 1 + 1) side0 51 := (hR1.other (a := ⟨w.heap.size, 14, none⟩) (by show w.heap.size + 1 + 1 ≠ w.heap.size; omega) _).other (a := ⟨w.heap.size, 15, none⟩) (by show w.heap.size + 1 + 1 ≠ w.heap.size; omega) _
    have hb3 := (hb2.setCell (p := ⟨w.heap.size, 14, none⟩) (Nat.le_refl _) (.bool false)).setCell (p := ⟨w.heap.size, 15, none⟩) (Nat.le_refl _) (.bool true)
    clear hS1 hR1 hb2
    generalize (X1.setCell ⟨w.heap.size, 14, none⟩ (.bool false)).setCell ⟨w.heap.size, 15, none⟩ (.bool true) = X2 at *
    go_wp2_with (first | (refine wpList_side_load rfl (.tmp 2) rfl w.heap.size rfl _ hS2 rfl ?_) | (refine wpList_side_store rfl (.tmp 4) (.tmp 32) rfl (w.heap.size + 1 + 1) _ _ rfl rfl hR2 rfl rfl (sdc_one _ _ _ _ _ _ _ _) ?_))
    refine bodyPost_ret (res_row3 Try.results57 (by rfl) (Blk.row hR2 _) rfl) rfl ⟨rfl, ?_⟩
    exact below_row hb3 (by omega) _
  · have hS2 : Blk ((X1.setCell ⟨w.heap.size, 14, none⟩ (.bool true)).setCell ⟨w.heap.size, 15, none⟩ (.bool true)) w.heap.size (sdc (.slice a n c) sent f m o (tV n1 n2 last pl force true true)) 51 := ((hS1.set 14 (.bool true)).set 15 (.bool true)).as rfl
    have hR2 : Blk ((X1.setCell ⟨w.heap.size, 14, none⟩ (.bool true)).setCell ⟨w.heap.size, 15, none⟩ (.bool true)) (w.heap.size + 1 + 1) side0 51 := (hR1.other (a := ⟨w.heap.size, 14, none⟩) (by show w.heap.size + 1 + 1 ≠ w.heap.size; omega) _).other (a := ⟨w.heap.size, 15, none⟩) (by show w.heap.size + 1 + 1 ≠ w.heap.size; omega) _
    have hb3 := (hb2.setCell (p := ⟨w.heap.size, 14, none⟩) (Nat.le_refl _) (.bool true)).setCell (p := ⟨w.heap.size, 15, none⟩) (Nat.le_refl _) (.bool true)
    clear hS1 hR1 hb2
    generalize (X1.setCell ⟨w.heap.size, 14, none⟩ (.bool true)).setCell ⟨w.heap.size, 15, none⟩ (.bool true) = X2 at *
    go_wp2_with (first | (refine wpList_side_load rfl (.tmp 2) rfl w.heap.size rfl _ hS2 rfl ?_) | (refine wpList_side_store rfl (.tmp 4) (.tmp 32) rfl (w.heap.size + 1 + 1) _ _ rfl rfl hR2 rfl rfl (sdc_one _ _ _ _ _ _ _ _) ?_))
    refine bodyPost_ret (res_row3 Try.results57 (by rfl) (Blk.row hR2 _) rfl) rfl ⟨rfl, ?_⟩
    exact below_row hb3 (by omega) _
/-- A new block for a side. -/
theorem side_fresh (w : World) (cs : List Value) : ∃ X, X = (w.alloc (.cells #[.slice none 0 0, .int .i64 0, .int .i64 0, .int .i64 0, .int .i64 0, .bool false, .int .i64 0, .int .i64 0, .bool false, .bool false, .int .i64 0, .bool false, .int .i64 0, .bool false, .bool false, .bool false, .bool false, .bool false] 51)).setRow w.heap.size cs.toArray ∧ Blk X w.heap.size cs 51 ∧ Below w.heap.size w X :=
  ⟨_, rfl, Blk.row (Blk.new w side0 51) cs, below_row ((Below.refl _ _).alloc (Nat.le_refl _) _) (Nat.le_refl _) _⟩
theorem RR.row51 {W w : World} {vL : Value} {L : List (List Int)} {r : Nat} {cs : List Value} (h : RR W w vL L) (hB : Blk w r cs 51) (ds : Array Value) : RR W (w.setRow r ds) vL L :=
  h.fr (Fr.row1 w r ds) (fun g hg e => by obtain ⟨cs', hc⟩ := h.own33 hg; exact hc.apart hB (by decide) e)
theorem RR.cell51 {W w : World} {vL : Value} {L : List (List Int)} {p : Addr} {cs : List Value} (h : RR W w vL L) (hB : Blk w p.block cs 51) (v : Value) : RR W (w.setCell p v) vL L :=
  h.fr (Fr.set1 w p v) (fun g hg e => by obtain ⟨cs', hc⟩ := h.own33 hg; exact hc.apart hB (by decide) e)
set_option maxHeartbeats 2000000 in
set_option maxRecDepth 100000 in
/-- It is an answer. -/
theorem ranswer_yes (W w : World) (vL : Value) (L : List (List Int)) (hL : RR W w vL L) (sent pl : Nat) (f m o n1 n2 last : Int) (force q0 q1 : Bool) (us : List Value) (bsn : Int) (hu0 : us[0]? = some (.int .u8 bsn)) (hn : 0 ≤ bsn ∧ bsn ≤ 255) (hf : 0 ≤ f ∧ f ≤ 127) (i : Nat) (hk : behI f sent bsn = i) (hs : sent ≤ L.length) (his : i ≤ sent) (hs1 : L.length ≤ 1000) (hpl : pl ≤ 1000) :
    Calls Try.prog 57 #[.agg (sdc vL sent f m o (tV n1 n2 last pl force q0 q1)).toArray, .agg us.toArray] w fun e w' => ∃ vL', e = .returned (.tuple #[.agg (sdc vL' ((sent : Int) - i) ((f + i) % 128) m o (tV n1 n2 last ((pl - i : Nat) : Int) force q1 false)).toArray, .int .i64 i, .int .i64 0]) ∧ RR W w' vL' (L.drop i) ∧ Below w.heap.size w w' ∧ (∀ g, vL'.ownBlock = some g → vL.ownBlock = some g) := by
  obtain ⟨a, c, rfl⟩ := hL.shape
  obtain ⟨X, hX, hS, hU, hR, hb⟩ := ans_in w (sdc (.slice a L.length c) sent f m o (tV n1 n2 last pl force q0 q1)) us
  have hbe := rbehind a L.length c sent f m o (tV n1 n2 last pl force q0 q1) bsn X (by omega) hf
  rw [hk] at hbe
  have hfree := fun w' (hb' : Below w.heap.size w w') => rfree_yes W w' (.slice a L.length c) L (hL.below hb') sent f m o (tV n1 n2 last pl force q1 false) bsn (by omega) hf i hk (by omega) (by omega) hs1
  have hw1 : IntKind.i64.wrap ((pl : Int) - (i : Int)) = (pl : Int) - i := wrapH _ (by omega)
  have hi0 : ¬ ((i : Int) < 0) := by omega
  have hp0 : (0 : Int) ≤ (pl : Int) := by omega
  have u0 := hU.cell 0 hu0
  have hus := Lib.hid hu0
  obtain ⟨n, hnn⟩ : ∃ n, L.length = n := ⟨_, rfl⟩
  rw [hnn] at hX hS hbe hfree ⊢
  obtain ⟨D, hD⟩ : ∃ D : Int, (sent : Int) - i = D := ⟨_, rfl⟩
  obtain ⟨F, hF⟩ : ∃ F : Int, (f + (i : Int)) % 128 = F := ⟨_, rfl⟩
  rw [hD, hF] at hfree ⊢
  obtain ⟨PL, hPL⟩ : ∃ PL : Int, ((pl - i : Nat) : Int) = PL := ⟨_, rfl⟩
  rw [hPL]
  have HPL := Lib.hid hPL
  clear hPL
  clear hu0 hk hL hnn hD hF
  go_enter Try.func57, Try.ntmps57
  go_upto_region 1 with fail
  rw [← hX]
  clear hX
  go_wp2_with (refine wpList_side_load rfl (.tmp 2) rfl w.heap.size rfl _ hS rfl ?_)
  refine hbe.mono ?_
  rintro e X1 ⟨rfl, hb1⟩
  have hS1 := hS.below hb1
  have hR1 := hR.below hb1
  have hU1 := hU.below hb1
  have hb2 := bthen hb hb1
  clear hS hR hb hb1 hbe hU u0
  have c14 := hS1.cell 14 rfl
  have c15 := hS1.cell 15 rfl
  have f14 := hS1.frozen 14
  have f15 := hS1.frozen 15
  dsimp only [tV] at c14 c15
  go_upto_region 5 with fail
  clear c14 c15 f14 f15
  have hS2 : Blk ((X1.setCell ⟨w.heap.size, 14, none⟩ (.bool q1)).setCell ⟨w.heap.size, 15, none⟩ (.bool false)) w.heap.size (sdc (.slice a n c) sent f m o (tV n1 n2 last pl force q1 false)) 51 := ((hS1.set 14 (.bool q1)).set 15 (.bool false)).as rfl
  have hR2 : Blk ((X1.setCell ⟨w.heap.size, 14, none⟩ (.bool q1)).setCell ⟨w.heap.size, 15, none⟩ (.bool false)) (w.heap.size + 1 + 1) side0 51 := (hR1.other (a := ⟨w.heap.size, 14, none⟩) (by show w.heap.size + 1 + 1 ≠ w.heap.size; omega) _).other (a := ⟨w.heap.size, 15, none⟩) (by show w.heap.size + 1 + 1 ≠ w.heap.size; omega) _
  have hU2 : Blk ((X1.setCell ⟨w.heap.size, 14, none⟩ (.bool q1)).setCell ⟨w.heap.size, 15, none⟩ (.bool false)) (w.heap.size + 1) us 69 := (hU1.other (a := ⟨w.heap.size, 14, none⟩) (by show w.heap.size + 1 ≠ w.heap.size; omega) _).other (a := ⟨w.heap.size, 15, none⟩) (by show w.heap.size + 1 ≠ w.heap.size; omega) _
  have hb3 := (hb2.setCell (p := ⟨w.heap.size, 14, none⟩) (Nat.le_refl _) (.bool q1)).setCell (p := ⟨w.heap.size, 15, none⟩) (Nat.le_refl _) (.bool false)
  clear hS1 hR1 hb2 hU1
  generalize (X1.setCell ⟨w.heap.size, 14, none⟩ (.bool q1)).setCell ⟨w.heap.size, 15, none⟩ (.bool false) = X2 at *
  have u0 := hU2.cell 0 hus.out
  go_wp2_with (refine wpList_side_load rfl (.tmp 2) rfl w.heap.size rfl _ hS2 rfl ?_)
  refine (hfree X2 hb3).mono ?_
  rintro e X3 ⟨vL', rfl, hRR, hb4, hown⟩
  obtain ⟨a', c', rfl⟩ := hRR.shape
  obtain ⟨n', hn'⟩ : ∃ n', (L.drop i).length = n' := ⟨_, rfl⟩
  rw [hn'] at hRR hown ⊢
  have HRR := Lib.hid hRR
  have HOW := Lib.hid hown
  have hbx := bthen hb3 hb4
  have hsz := hb3.size
  have hltR := hR2.lt
  obtain ⟨X4, hX4, hB9, hb5⟩ := side_fresh X3 (sdc (.slice a' n' c') D F m o (tV n1 n2 last pl force q1 false))
  have hS4 := (hS2.below hb4).below hb5
  have hR4 := (hR2.below hb4).below hb5
  have hb6 := bthen hbx hb5
  have hR0 := Blk.new X3 side0 51
  have hsz3 := hb4.size
  clear hfree hRR hown hS2 hR2 hU2 u0 hb3
  go_upto_region 10 with (refine wpList_side_store rfl (.tmp 9) (.tmp 41) rfl X3.heap.size _ side0 rfl rfl hR0 rfl rfl (sdc_one _ _ _ _ _ _ _ _) ?_)
  rw [← hX4]
  have hRR4 := (HRR.out.below hb5)
  clear hX4 hR0 HRR
  have HRR := Lib.hid hRR4
  clear hRR4
  go_upto_region 11 with (first | (refine wpList_side_load rfl (.tmp 9) rfl X3.heap.size rfl _ hB9 rfl ?_) | (refine wpList_side_store rfl (.tmp 2) (.tmp 43) rfl w.heap.size _ _ rfl rfl hS4 rfl rfl (sdc_one _ _ _ _ _ _ _ _) ?_))
  have hS5 := Blk.row hS4 (sdc (.slice a' n' c') D F m o (tV n1 n2 last pl force q1 false))
  have hR5 := hR4.fr (Fr.row1 X4 w.heap.size (sdc (.slice a' n' c') D F m o (tV n1 n2 last pl force q1 false)).toArray) (fun e => by omega)
  have hRR5 := HRR.out.row51 hS4 (sdc (.slice a' n' c') D F m o (tV n1 n2 last pl force q1 false)).toArray
  have hb7 := below_row hb6 (Nat.le_refl _) (sdc (.slice a' n' c') D F m o (tV n1 n2 last pl force q1 false)).toArray
  clear hS4 hR4 HRR hb6 hB9 hbx hb5 hb4
  generalize X4.setRow w.heap.size (sdc (.slice a' n' c') D F m o (tV n1 n2 last pl force q1 false)).toArray = X5 at *
  have c12 := hS5.cell 12 rfl
  have c5 := hS5.cell 5 rfl
  have f12 := hS5.frozen 12
  dsimp only [tV] at c12 c5
  have HRR := Lib.hid hRR5
  by_cases hlt : pl < i
  · have hn12 : (pl : Int) - (i : Int) < 0 := by omega
    obtain rfl : PL = 0 := by have := HPL.out; omega
    have hS6 : Blk ((X5.setCell ⟨w.heap.size, 12, none⟩ (.int .i64 ((pl : Int) - i))).setCell ⟨w.heap.size, 12, none⟩ (.int .i64 0)) w.heap.size (sdc (.slice a' n' c') D F m o (tV n1 n2 last 0 force q1 false)) 51 := ((hS5.set 12 (.int .i64 ((pl : Int) - i))).set 12 (.int .i64 0)).as rfl
    have hR6 : Blk ((X5.setCell ⟨w.heap.size, 12, none⟩ (.int .i64 ((pl : Int) - i))).setCell ⟨w.heap.size, 12, none⟩ (.int .i64 0)) (w.heap.size + 1 + 1) side0 51 := (hR5.other (a := ⟨w.heap.size, 12, none⟩) (by show w.heap.size + 1 + 1 ≠ w.heap.size; omega) _).other (a := ⟨w.heap.size, 12, none⟩) (by show w.heap.size + 1 + 1 ≠ w.heap.size; omega) _
    have hb8 := (hb7.setCell (p := ⟨w.heap.size, 12, none⟩) (Nat.le_refl _) (.int .i64 ((pl : Int) - i))).setCell (p := ⟨w.heap.size, 12, none⟩) (Nat.le_refl _) (.int .i64 0)
    have hRR6 := Lib.hid ((hRR5.cell51 (p := ⟨w.heap.size, 12, none⟩) hS5 (.int .i64 ((pl : Int) - i))).cell51 (p := ⟨w.heap.size, 12, none⟩) (hS5.set 12 (.int .i64 ((pl : Int) - i))) (.int .i64 0))
    clear hRR5 hS5 hR5
    go_upto_region 16 with fail
    clear c12 c5 f12 HRR
    generalize (X5.setCell ⟨w.heap.size, 12, none⟩ (.int .i64 ((pl : Int) - i))).setCell ⟨w.heap.size, 12, none⟩ (.int .i64 0) = X6 at *
    go_wp2_with (first | (refine wpList_side_load rfl (.tmp 2) rfl w.heap.size rfl _ hS6 rfl ?_) | (refine wpList_side_store rfl (.tmp 4) (.tmp 58) rfl (w.heap.size + 1 + 1) _ _ rfl rfl hR6 rfl rfl (sdc_one _ _ _ _ _ _ _ _) ?_))
    refine bodyPost_ret (res_row3 Try.results57 (by rfl) (Blk.row hR6 _) rfl) rfl ⟨_, rfl, hRR6.out.row51 hR6 _, ?_, HOW.out⟩
    exact below_row hb8 (by omega) _
  · have hn12 : ¬ (pl : Int) - (i : Int) < 0 := by omega
    obtain rfl : (pl : Int) - i = PL := by have := HPL.out; omega
    have hS6 : Blk (X5.setCell ⟨w.heap.size, 12, none⟩ (.int .i64 ((pl : Int) - i))) w.heap.size (sdc (.slice a' n' c') D F m o (tV n1 n2 last ((pl : Int) - i) force q1 false)) 51 := (hS5.set 12 (.int .i64 ((pl : Int) - i))).as rfl
    have hR6 : Blk (X5.setCell ⟨w.heap.size, 12, none⟩ (.int .i64 ((pl : Int) - i))) (w.heap.size + 1 + 1) side0 51 := hR5.other (a := ⟨w.heap.size, 12, none⟩) (by show w.heap.size + 1 + 1 ≠ w.heap.size; omega) _
    have hb8 := hb7.setCell (p := ⟨w.heap.size, 12, none⟩) (Nat.le_refl _) (.int .i64 ((pl : Int) - i))
    have hRR6 := Lib.hid (hRR5.cell51 (p := ⟨w.heap.size, 12, none⟩) hS5 (.int .i64 ((pl : Int) - i)))
    clear hRR5 hS5 hR5
    go_upto_region 15 with fail
    clear c12 c5 f12 HRR
    have c5 := hS6.cell 5 rfl
    dsimp only [tV] at c5
    generalize X5.setCell ⟨w.heap.size, 12, none⟩ (.int .i64 ((pl : Int) - i)) = X6 at *
    go_wp2_with (first | (refine wpList_side_load rfl (.tmp 2) rfl w.heap.size rfl _ hS6 rfl ?_) | (refine wpList_side_store rfl (.tmp 4) (.tmp 58) rfl (w.heap.size + 1 + 1) _ _ rfl rfl hR6 rfl rfl (sdc_one _ _ _ _ _ _ _ _) ?_))
    refine bodyPost_ret (res_row3 Try.results57 (by rfl) (Blk.row hR6 _) rfl) rfl ⟨_, rfl, hRR6.out.row51 hR6 _, ?_, HOW.out⟩
    exact below_row hb8 (by omega) _
set_option maxRecDepth 100000 in
/-- A unit's message: the next one is taken. -/
theorem rtake (a : Option Addr) (n c : Nat) (sent f m o n1 n2 last pl : Int) (force q0 q1 : Bool) (us : List Value) (kind fsn : Int) (w : World) (hu1 : us[1]? = some (.int .u8 fsn)) (hu4 : us[4]? = some (.int .u8 kind)) (hl : 0 ≤ last ∧ last ≤ 127) (hf : 0 ≤ fsn ∧ fsn ≤ 255) (b : Bool) (hb : decide (kind = 2 ∧ fsn = (last + 1) % 128) = b) :
    Calls Try.prog 58 #[.agg (sdc (.slice a n c) sent f m o (tV n1 n2 last pl force q0 q1)).toArray, .agg us.toArray] w fun e w' => e = .returned (.tuple #[.agg (sdc (.slice a n c) sent f m o (tV n1 n2 (if b = true then fsn else last) pl force q0 q1)).toArray, .bool b, .int .i64 0]) ∧ Below w.heap.size w w' := by
  obtain ⟨X, hX, hS, hU, hR, hbl⟩ := ans_in w (sdc (.slice a n c) sent f m o (tV n1 n2 last pl force q0 q1)) us
  have u1 := hU.cell 1 hu1
  have u4 := hU.cell 4 hu4
  have c10 := hS.cell 10 rfl
  have c5 := hS.cell 5 rfl
  dsimp only [tV] at c10 c5
  have hw1 : IntKind.i64.wrap (last + 1) = last + 1 := wrapH _ (by omega)
  obtain ⟨N, hN⟩ : ∃ N : Int, (last + 1) % 128 = N := ⟨_, rfl⟩
  have hw2 : (last + 1).tmod 128 = N := by rw [Int.tmod_eq_emod_of_nonneg (by omega)]; exact hN
  rw [hN] at hb
  have hNb : 0 ≤ N ∧ N ≤ 127 := by omega
  clear hN hu1 hu4 hU
  by_cases hk : kind = 2
  · by_cases hfn : fsn = N
    · subst hfn
      subst hk
      obtain rfl : true = b := by simpa using hb
      rw [if_pos rfl]
      have f10 := hS.frozen 10
      go_enter Try.func58, Try.ntmps58
      go_upto_region 1 with fail
      rw [← hX]
      clear hX
      have hS1 : Blk (X.setCell ⟨w.heap.size, 10, none⟩ (.int .i64 fsn)) w.heap.size (sdc (.slice a n c) sent f m o (tV n1 n2 fsn pl force q0 q1)) 51 := (hS.set 10 (.int .i64 fsn)).as rfl
      have hR1 : Blk (X.setCell ⟨w.heap.size, 10, none⟩ (.int .i64 fsn)) (w.heap.size + 1 + 1) side0 51 := hR.other (a := ⟨w.heap.size, 10, none⟩) (by show w.heap.size + 1 + 1 ≠ w.heap.size; omega) _
      have hb1 := hbl.setCell (p := ⟨w.heap.size, 10, none⟩) (Nat.le_refl _) (.int .i64 fsn)
      clear hS hR hbl
      go_wp2_with (first | (refine wpList_side_load rfl (.tmp 2) rfl w.heap.size rfl _ hS1 rfl ?_) | (refine wpList_side_store rfl (.tmp 4) (.tmp 28) rfl (w.heap.size + 1 + 1) _ _ rfl rfl hR1 rfl rfl (sdc_one _ _ _ _ _ _ _ _) ?_))
      refine bodyPost_ret (res_row3 Try.results58 (by rfl) (Blk.row hR1 _) rfl) rfl ⟨rfl, ?_⟩
      exact below_row hb1 (by omega) _
    · obtain rfl : false = b := by rw [← hb]; simp [hfn]
      rw [if_neg (by decide)]
      have e1 : (fsn == N) = false := by simpa using hfn
      subst hk
      clear hb
      go_enter Try.func58, Try.ntmps58
      go_upto_region 1 with fail
      rw [← hX]
      clear hX
      go_wp2_with (first | (refine wpList_side_load rfl (.tmp 2) rfl w.heap.size rfl _ hS rfl ?_) | (refine wpList_side_store rfl (.tmp 4) (.tmp 29) rfl (w.heap.size + 1 + 1) _ _ rfl rfl hR rfl rfl (sdc_one _ _ _ _ _ _ _ _) ?_))
      refine bodyPost_ret (res_row3 Try.results58 (by rfl) (Blk.row hR _) rfl) rfl ⟨rfl, ?_⟩
      exact below_row hbl (by omega) _
  · obtain rfl : false = b := by rw [← hb]; simp [hk]
    rw [if_neg (by decide)]
    have e1 : (kind == 2) = false := by simpa using hk
    clear hb
    go_enter Try.func58, Try.ntmps58
    go_upto_region 1 with fail
    rw [← hX]
    clear hX
    go_wp2_with (first | (refine wpList_side_load rfl (.tmp 2) rfl w.heap.size rfl _ hS rfl ?_) | (refine wpList_side_store rfl (.tmp 4) (.tmp 29) rfl (w.heap.size + 1 + 1) _ _ rfl rfl hR rfl rfl (sdc_one _ _ _ _ _ _ _ _) ?_))
    refine bodyPost_ret (res_row3 Try.results58 (by rfl) (Blk.row hR _) rfl) rfl ⟨rfl, ?_⟩
    exact below_row hbl (by omega) _
set_option maxHeartbeats 2000000 in
set_option maxRecDepth 100000 in
/-- A new side of a cyclic way. -/
theorem rside (m n1 n2 : Int) (w : World) : Calls Try.prog 54 #[.int .i64 m, .int .i64 n1, .int .i64 n2] w fun e w' => e = .returned (.agg (sdc (.slice none 0 0) 0 0 m 5000 (tV n1 n2 127 0 false false false)).toArray) ∧ Below w.heap.size w w' := by
  have hR0 := Blk.new w side0 51
  have hb0 : Below w.heap.size w (w.alloc (.cells side0.toArray 51)) := (Below.refl _ _).alloc (Nat.le_refl _) _
  have hrn := rnew m 5000 (w.alloc (.cells side0.toArray 51))
  go_enter Try.func54, Try.ntmps54
  go_wp2_with fail
  refine hrn.mono ?_
  rintro e X1 ⟨rfl, hb1⟩
  have hR1 := hR0.below hb1
  have hb2 := bthen hb0 hb1
  have hsz := hb2.size
  have hltR := hR1.lt
  obtain ⟨X2, hX2, hB, hb3⟩ := side_fresh X1 (sdc (.slice none 0 0) 0 0 m 5000 ⟨false, 0, 0, true, true, 127, false, -1, false, false, false, false, false⟩)
  have hR2 := hR1.below hb3
  have hb4 := bthen hb2 hb3
  have hR00 := Blk.new X1 side0 51
  clear hrn hR1 hb1 hb0 hR0 hb2
  go_upto_region 2 with (refine wpList_side_store rfl (.tmp 7) (.tmp 9) rfl X1.heap.size _ side0 rfl rfl hR00 rfl rfl (sdc_one _ _ _ _ _ _ _ _) ?_)
  rw [← hX2]
  clear hX2 hR00 hb3
  generalize X1.heap.size = b7 at *
  have d5 := hB.cell 5 rfl
  have d6 := hB.cell 6 rfl
  have d7 := hB.cell 7 rfl
  have d12 := hB.cell 12 rfl
  have c5 := hB.frozen 5
  have c6 := hB.frozen 6
  have c7 := hB.frozen 7
  have c12 := hB.frozen 12
  go_upto_region 6 with fail
  clear c5 c6 c7 c12 d5 d6 d7 d12
  have hB2 := ((((hB.set 5 (.bool true)).set 6 (.int .i64 n1)).set 7 (.int .i64 n2)).set 12 (.int .i64 0)).as (show _ = sdc (.slice none 0 0) 0 0 m 5000 (tV n1 n2 127 0 false false false) from rfl)
  have hR3 := (((hR2.other (a := ⟨b7, 5, none⟩) (by show w.heap.size ≠ b7; omega) (.bool true)).other (a := ⟨b7, 6, none⟩) (by show w.heap.size ≠ b7; omega) (.int .i64 n1)).other (a := ⟨b7, 7, none⟩) (by show w.heap.size ≠ b7; omega) (.int .i64 n2)).other (a := ⟨b7, 12, none⟩) (by show w.heap.size ≠ b7; omega) (.int .i64 0)
  have hb5 := (((hb4.setCell (p := ⟨b7, 5, none⟩) (by show w.heap.size ≤ b7; omega) (.bool true)).setCell (p := ⟨b7, 6, none⟩) (by show w.heap.size ≤ b7; omega) (.int .i64 n1)).setCell (p := ⟨b7, 7, none⟩) (by show w.heap.size ≤ b7; omega) (.int .i64 n2)).setCell (p := ⟨b7, 12, none⟩) (by show w.heap.size ≤ b7; omega) (.int .i64 0)
  clear hB hR2 hb4
  generalize (((X2.setCell ⟨b7, 5, none⟩ (.bool true)).setCell ⟨b7, 6, none⟩ (.int .i64 n1)).setCell ⟨b7, 7, none⟩ (.int .i64 n2)).setCell ⟨b7, 12, none⟩ (.int .i64 0) = X3 at *
  go_wp2_with (first | (refine wpList_side_load rfl (.tmp 7) rfl b7 rfl _ hB2 rfl ?_) | (refine wpList_side_store rfl (.tmp 6) (.tmp 16) rfl w.heap.size _ _ rfl rfl hR3 rfl rfl (sdc_one _ _ _ _ _ _ _ _) ?_))
  refine bodyPost_ret (results_cell_row Try.results54 _ _ w.heap.size 51 _ (0, 0) _ (by rfl) (Blk.row hR3 _) Try.underlying51 rfl (by rw [info51]; rfl)) rfl ⟨rfl, ?_⟩
  exact below_row hb5 (Nat.le_refl _) _
end Go.Proofs.Ytadheikcgdhcdaa
