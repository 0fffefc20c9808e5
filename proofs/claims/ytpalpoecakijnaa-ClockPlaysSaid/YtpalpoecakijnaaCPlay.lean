/-
  ClockPlays: timers that start, stop, and run out: what is left of each, tick by tick.
-/
import Derived.Test.YtpalpoecakijnaaPlayP
namespace Go.Proofs.Ytpalpoecakijnaa
open Go.RowKit Go.ChangeShapes Go.WideShapes
set_option linter.unusedVariables false
set_option linter.unusedSimpArgs false

/-- Acts of an octet and two numbers. -/
def Acts3 (w : World) (a : Option Addr) (len : Nat) : Prop := ∀ i, i < len → ∃ x k y z, a = some x ∧ w.cell? (x.add (i * 3)) = some (.int .u8 k) ∧ w.cell? (x.add (i * 3 + 1)) = some (.int .i64 y) ∧ w.cell? (x.add (i * 3 + 2)) = some (.int .i64 z) ∧ (0 ≤ k ∧ k ≤ 255)
theorem Acts3.below {w w' : World} {a : Option Addr} {len : Nat} (h : Acts3 w a len) (hb : Below w.heap.size w w') : Acts3 w' a len := fun i hi => by
  obtain ⟨x, k, y, z, e, h1, h2, h3, h4⟩ := h i hi
  exact ⟨x, k, y, z, e, by rw [← h1]; exact hb.cell (World.block_lt_of_cell? _ _ h1), by rw [← h2]; exact hb.cell (World.block_lt_of_cell? _ _ h2), by rw [← h3]; exact hb.cell (World.block_lt_of_cell? _ _ h3), h4⟩

theorem open_acts3 {H : Type} {enc : TypeId × Value → H} {W : World} {fuel : Nat} {t e : TypeId} {v : Value} {y : DataW H × List MemPlace} (ht : Try.prog.underlying t = some (.slice e)) (he : flat Try.prog 6 e = some [.int .u8, .int .i64, .int .i64]) (hc : Try.prog.cellsOf e = 3)
    (h : DataW.trod enc Try.prog W 0 (fun _ => true) true fuel t [v] = some y) : ∃ a len cap, v = .slice a len cap ∧ Acts3 W a len ∧ len ≤ maxLen := by
  rcases Go.Deep.open_slice ht h with ⟨hcs, _⟩ | ⟨x, l, c, m, n, D, Pl, hcs, _, hl, hm, hmm, _, hel⟩
  · exact ⟨none, 0, 0, by simpa using hcs, fun i hi => absurd hi (Nat.not_lt_zero i), Nat.zero_le _⟩
  · refine ⟨some x, l, c, by simpa using hcs, fun i hi => ?_, Nat.le_trans hl hm⟩
    have hmc : m = c := by simpa using hmm
    obtain ⟨cs', h1, h2⟩ := hel i (by omega)
    obtain ⟨_, _, rfl, ⟨k, rfl, hk⟩, _, _, rfl, ⟨y, rfl, hy⟩, _, _, rfl, ⟨z, rfl, hz⟩, rfl⟩ := flat_ok 6 _ _ _ _ _ he h2
    rw [hc] at h1
    obtain ⟨_, _, h3⟩ := World.cells?_some h1
    have q0 := h3 0 (by decide)
    have q1 := h3 1 (by decide)
    have q2 := h3 2 (by decide)
    rw [Go.Deep.add_add] at q0 q1 q2
    have bk := bounds_u8 hk
    exact ⟨x, k, y, z, rfl, by simpa using q0, by simpa using q1, by simpa using q2, by omega⟩
theorem open_acts42 {H : Type} {enc : TypeId × Value → H} {W : World} {fuel : Nat} {v : Value} {y : DataW H × List MemPlace} (h : DataW.trod enc Try.prog W 0 (fun _ => true) true fuel 42 [v] = some y) : ∃ a len cap, ∃ zs : List Int, v = .slice a len cap ∧ Acts3 W a len ∧ len ≤ maxLen := by
  obtain ⟨a, len, cap, h1, h2⟩ := open_acts3 Try.underlying42 (by kernel_rfl) (by kernel_rfl) h
  exact ⟨a, len, cap, [], h1, h2⟩

set_option maxRecDepth 100000 in
theorem cplay_long (a : Option Addr) (len cap : Nat) (w : World) (h : 80 < len) (hm : len ≤ 9223372036854775807) : Calls Try.prog 5 #[.slice a len cap] w fun e w' => e = .returned (.bool true) ∧ Below w.heap.size w w' := by
  have h1 : (80 : Int) < len := by omega
  go_enter Try.func5, Try.ntmps5
  go_wp2_with fail
  refine (awake7_any _).mono ?_
  rintro e w1 ⟨rfl, hb1⟩
  go_wp2_with fail
  refine (awake7_any _).mono ?_
  rintro e w2 ⟨rfl, hb2⟩
  go_wp2
  go_ret
  exact ⟨rfl, bthen hb1 hb2⟩

/-- The clock, and the law's own list in block L. -/
structure CS (w0 w : World) (C L : Nat) (lc l : List Int) : Prop where
  ck : Ck w C lc
  blk : Blk w L (l.map (Value.int .i64)) 3
  bel : Below w0.heap.size w0 w
  ne : L ≠ C
  lo : w0.heap.size ≤ L
  co : w0.heap.size ≤ C
  len : l.length = 8
theorem CS.put {w0 w : World} {C L : Nat} {lc l : List Int} (h : CS w0 w C L lc l) (i : Nat) (v : Int) : CS w0 (w.setCell ⟨L, i, none⟩ (.int .i64 v)) C L lc (l.set i v) :=
  ⟨h.ck.fr (Fr.set1 w ⟨L, i, none⟩ (.int .i64 v)) (fun e => h.ne e.symm), by rw [List.map_set]; exact h.blk.set i _, h.bel.trans ((Fr.set1 w ⟨L, i, none⟩ (.int .i64 v)).below h.bel.size (fun k hk => by rw [hk]; exact h.lo)), h.ne, h.lo, h.co, by rw [List.length_set]; exact h.len⟩
theorem CS.call {w0 w w' : World} {C L : Nat} {lc lc' l : List Int} (h : CS w0 w C L lc l) (hA : Ck w' C lc') (hF : Fr (· = C) w w') : CS w0 w' C L lc' l :=
  ⟨hA, h.blk.fr hF h.ne, h.bel.trans (hF.new h.co h.bel.size), h.ne, h.lo, h.co, h.len⟩
theorem CS.alloc {w0 w : World} {C L : Nat} {lc l : List Int} (h : CS w0 w C L lc l) (o : Obj) : CS w0 (w.alloc o) C L lc l :=
  ⟨h.ck.alloc o, h.blk.alloc o, h.bel.alloc h.bel.size o, h.ne, h.lo, h.co, h.len⟩
theorem CS.drewN {w0 w : World} {C L : Nat} {lc l : List Int} (h : CS w0 w C L lc l) (n : Nat) : CS w0 (w.drewN n) C L lc l :=
  ⟨h.ck.fr (Fr.refl (fun _ => False) w |>.drewN n) (fun h => h), h.blk.drewN n, below_drewN h.bel n, h.ne, h.lo, h.co, h.len⟩
theorem CS.cell {w0 w : World} {C L : Nat} {lc l : List Int} (h : CS w0 w C L lc l) (i : Nat) (hi : i < 8) : w.cell? ⟨L, i, none⟩ = some (.int .i64 (l.getD i 0)) := by
  refine h.blk.cell i ?_
  rw [List.getElem?_map, List.getD_eq_getElem?_getD, List.getElem?_eq_getElem (by rw [h.len]; exact hi)]
  rfl
theorem CS.frozen {w0 w : World} {C L : Nat} {lc l : List Int} (h : CS w0 w C L lc l) (i : Nat) : w.frozen? ⟨L, i, none⟩ = false := h.blk.frozen i
theorem cleft_at (l : List Int) (m : Nat) (h : m < 8) : leftV l (m : Int) = l.getD m 0 := by
  unfold leftV tOk
  simp
  omega
theorem cleft_out (l : List Int) : leftV l 8 = 0 ∧ leftV l (-1) = 0 := ⟨rfl, rfl⟩
theorem cleft_same (c : Nat) (i v : Int) (w : World) (l : List Int) (hC : Ck w c l) (hv : leftV l i = v) :
    Calls Try.prog 18 #[.pointer (some ⟨c, 0, none⟩), .int .i64 i] w fun e w' => e = .returned (.int .i64 v) ∧ w' = w :=
  (left_any c i w l hC).mono fun _ _ ⟨h1, h2⟩ => ⟨by rw [h1, hv], h2.symm⟩
theorem con_same (c : Nat) (i v : Int) (w : World) (l : List Int) (hC : Ck w c l) (hv : leftV l i = v) :
    Calls Try.prog 17 #[.pointer (some ⟨c, 0, none⟩), .int .i64 i] w fun e w' => e = .returned (.bool (decide (0 < v))) ∧ w' = w :=
  (on_any c i w l hC).mono fun _ _ ⟨h1, h2⟩ => ⟨by rw [h1, hv], h2.symm⟩
theorem leastL_take (l : List Int) (m : Nat) (h : m < l.length) : leastL (l.take (m + 1)) = leastF (leastL (l.take m)) (l.getD m 0) := by
  rw [List.take_add_one, List.getElem?_eq_getElem h, List.getD_eq_getElem?_getD, List.getElem?_eq_getElem h]
  exact leastL_snoc _ _

theorem wrapC (n : Int) (h : -1000 ≤ n ∧ n ≤ 1000) : IntKind.i64.wrap n = n := by
  simp [IntKind.wrap, IntKind.bits, IntKind.signed]
  split <;> omega
theorem make8 (u : World) : (Instr.makeSlice 38 (.int .i64 8) (.int .i64 8)).run Try.prog u = .ok (.slice (some ⟨u.heap.size, 0, none⟩) 8 8) (u.alloc (.cells #[.int .i64 0, .int .i64 0, .int .i64 0, .int .i64 0, .int .i64 0, .int .i64 0, .int .i64 0, .int .i64 0] 3)) := by kernel_rfl

set_option maxRecDepth 100000 in
set_option maxHeartbeats 40000000 in
theorem cplay_main (a : Option Addr) (len cap : Nat) (w : World) (h : len ≤ 80) (hz : Acts3 w a len) : Calls Try.prog 5 #[.slice a len cap] w fun e w' => e = .returned (.bool true) ∧ Below w.heap.size w w' := by
  have Hz := Lib.hid hz
  clear hz
  have h1 : ¬ ((80 : Int) < len) := by omega
  have hmk := make8
  go_enter Try.func5, Try.ntmps5
  go_wp2_with fail
  refine (awake7_any _).mono ?_
  rintro e w0 ⟨rfl, hB⟩
  have hs := hB.size
  have hC := Ck.new w0
  have hC2 := hC.alloc (.cells #[.int .i64 0, .int .i64 0, .int .i64 0, .int .i64 0, .int .i64 0, .int .i64 0, .int .i64 0, .int .i64 0] 3)
  have hL := Blk.new (w0.alloc (.cells #[.int .i64 0, .int .i64 0, .int .i64 0, .int .i64 0, .int .i64 0, .int .i64 0, .int .i64 0, .int .i64 0] 25)) [.int .i64 0, .int .i64 0, .int .i64 0, .int .i64 0, .int .i64 0, .int .i64 0, .int .i64 0, .int .i64 0] 3
  have hB3 := (hB.alloc hs (.cells #[.int .i64 0, .int .i64 0, .int .i64 0, .int .i64 0, .int .i64 0, .int .i64 0, .int .i64 0, .int .i64 0] 25)).alloc (by simp; omega) (.cells #[.int .i64 0, .int .i64 0, .int .i64 0, .int .i64 0, .int .i64 0, .int .i64 0, .int .i64 0, .int .i64 0] 3)
  rw [World.size_alloc] at hL
  have hS : CS w _ w0.heap.size (w0.heap.size + 1) [0, 0, 0, 0, 0, 0, 0, 0] [0, 0, 0, 0, 0, 0, 0, 0] := ⟨hC2, hL, hB3, by omega, by omega, by omega, rfl⟩
  clear hC hC2 hL hB3 hB
  go_wp2_with fail
  generalize hCe : w0.heap.size = C at hS ⊢
  clear hCe
  go_loopw [4, 5] (fun lf i wr => ∃ (k L : Nat) (l : List Int), lf = .slice (some ⟨L, 0, none⟩) 8 8 ∧ i = .int .i64 k ∧ k ≤ len ∧ CS w wr C L l l) (fun _ i _ => len - (intOf i).toNat)
  case atStart => exact ⟨0, _, _, rfl, rfl, by omega, hS⟩
  case round =>
    clear hS
    obtain ⟨k, L, l, rfl, rfl, hk, hS⟩ := hrel
    by_cases hlt : k < len
    case neg =>
      go_wp2
      go_ret
      exact ⟨rfl, hS.bel⟩
    obtain ⟨x, kk, y, z, rfl, q0, q1, q2, bk⟩ := (Hz.out.below hS.bel) k hlt
    have e1 : x.add (k * 3 + 1) = ⟨(x.add (k * 3)).block, (x.add (k * 3)).off + 1, none⟩ := by rw [← Go.Deep.add_add]; rfl
    have e2 : x.add (k * 3 + 2) = ⟨(x.add (k * 3)).block, (x.add (k * 3)).off + 2, none⟩ := by rw [← Go.Deep.add_add]; rfl
    rw [e1] at q1
    rw [e2] at q2
    clear e1 e2
    have hS2 := hS.alloc (.cells #[.int .u8 kk, .int .i64 y, .int .i64 z] 44)
    go_upto_block 2 with fail
    go_cut [4] (fun lf wx => ∃ (L' : Nat) (l' : List Int), lf = .slice (some ⟨L', 0, none⟩) 8 8 ∧ CS w wx C L' l' l')
    case first =>
      clear hS q0 q1 q2
      have ba : -10 < Int.tmod y 10 ∧ Int.tmod y 10 < 10 := ⟨Int.lt_tmod_of_pos y (by decide), Int.tmod_lt_of_pos y (by decide)⟩
      have bn : Int.tmod z 12 < 12 := Int.tmod_lt_of_pos z (by decide)
      generalize Int.tmod y 10 = at' at *
      generalize Int.tmod z 12 = n' at *
      by_cases c0 : kk % 10 < 3
      · as_aux_lemma =>
        cases ho : sOk at' n'
        · have ho' : ¬ ((0 ≤ at' ∧ at' < 8) ∧ 0 < n') := by
            intro hh
            have := (sOk_iff at' n').2 ⟨hh.1, by omega, by omega⟩
            rw [ho] at this; cases this
          have eE : startE at' n' = 1 := by unfold startE; rw [ho]; rfl
          have eL : startL l at' n' = l := by unfold startL; rw [ho]; rfl
          clear ho
          rcases (by omega : at' < 0 ∨ (0 ≤ at' ∧ 8 ≤ at') ∨ (0 ≤ at' ∧ at' < 8 ∧ n' ≤ 0)) with g | ⟨g1, g2⟩ | ⟨g1, g2, g3⟩
          all_goals
            clear ho'
            go_wp2_with fail
            refine (start_any C _ _ _ l hS2.ck).mono ?_
            rintro e w5 ⟨rfl, hA5, hF5⟩
            rw [eE, eL] at *
            have hS5 := hS2.call hA5 hF5
            clear hS2 hA5 hF5
            go_wp2
            go_meet
            exact ⟨_, _, rfl, hS5⟩
        · obtain ⟨⟨g1, g2⟩, g3, g4⟩ := (sOk_iff at' n').1 ho
          have eE : startE at' n' = 0 := by unfold startE; rw [ho]; rfl
          have eL : startL l at' n' = l.set at'.toNat n' := by unfold startL; rw [ho]; rfl
          have g5 : 0 < n' := by omega
          clear ho
          go_wp2_with fail
          refine (start_any C _ _ _ l hS2.ck).mono ?_
          rintro e w5 ⟨rfl, hA5, hF5⟩
          rw [eE, eL] at *
          have hS5 := hS2.call hA5 hF5
          clear hS2 hA5 hF5
          have z5 := hS5.cell at'.toNat (by omega)
          have f5 := hS5.frozen at'.toNat
          have hS6 := hS5.put at'.toNat n'
          clear hS5
          go_wp2
          go_meet
          exact ⟨_, _, rfl, hS6⟩
      by_cases c3 : kk % 10 = 3
      · replace c3 : (kk % 10 == 3) = true := by simp [c3]
        as_aux_lemma =>
        have hwr : IntKind.i64.wrap (at' + 1) = at' + 1 := wrapC _ (by omega)
        go_wp2_with fail
        refine (stop2 C at' (at' + 1) _ _ l hS2.ck (by simp [World.size_alloc])).mono ?_
        rintro e w5 ⟨rfl, hA5, hF5⟩
        have hS5 := hS2.call hA5 hF5
        have hS6 := hS5.alloc (.cells #[.int .i64 at', .int .i64 (at' + 1)] 3)
        have hX := Blk.new w5 [.int .i64 at', .int .i64 (at' + 1)] 3
        have hLX := hS5.blk.lt
        clear hS5 hS2 hA5 hF5 c0 bk hlt hk
        go_wp2_with fail
        generalize hXe : w5.heap.size = X at hX hLX ⊢
        have hLX : X ≠ L := by omega
        clear hXe
        go_loopw [137] (fun t wx => ∃ m : Nat, m ≤ 2 ∧ t = .int .i64 m ∧ CS w wx C L (stopL l [at', at' + 1]) (stopL l ([at', at' + 1].take m)) ∧ Blk wx X [.int .i64 at', .int .i64 (at' + 1)] 3) (fun t _ => 2 - (intOf t).toNat)
        case atStart => exact ⟨0, by omega, rfl, hS6, hX⟩
        case round =>
          clear hS6 hX
          obtain ⟨m, hm, rfl, hS6, hX⟩ := hrel
          by_cases hm2 : m < 2
          case neg =>
            have h2 : m = 2 := by omega
            subst h2
            go_wp2
            go_meet
            exact ⟨_, _, rfl, hS6⟩
          have hsn := take_snoc' [at', at' + 1] m hm2
          obtain ⟨x0, hx0⟩ : ∃ x0, [at', at' + 1].getD m 0 = x0 := ⟨_, rfl⟩
          have hz : wr.cell? ⟨X, m, none⟩ = some (.int .i64 x0) := by
            refine hX.cell m ?_
            rw [← hx0]
            rcases (by omega : m = 0 ∨ m = 1) with rfl | rfl <;> rfl
          rw [hx0] at hsn
          have hst := stopL_snoc l ([at', at' + 1].take m) x0
          rw [← hsn] at hst
          clear hsn hx0
          cases ht : tOk x0
          · have hno := (tOk_no x0).1 ht
            rw [ht, if_neg (by decide)] at hst
            rw [← hst] at hS6
            clear hst ht
            rcases (by omega : x0 < 0 ∨ (0 ≤ x0 ∧ 8 ≤ x0)) with g | ⟨g1, g2⟩
            all_goals
              clear hno
              go_wp2
              exact ⟨⟨m + 1, by omega, by go_num, hS6, hX⟩, by simp [intOf]; omega⟩
          · obtain ⟨g1, g2⟩ := (tOk_iff x0).1 ht
            rw [ht, if_pos rfl] at hst
            clear ht
            have z5 := hS6.cell x0.toNat (by omega)
            have f5 := hS6.frozen x0.toNat
            have hS7 := hS6.put x0.toNat 0
            have hX7 := hX.other (a := ⟨L, x0.toNat, none⟩) hLX (.int .i64 0)
            rw [← hst] at hS7
            clear hst hS6 hX
            go_wp2
            exact ⟨⟨m + 1, by omega, by go_num, hS7, hX7⟩, by simp [intOf]; omega⟩
      replace c3 : (kk % 10 == 3) = false := by simp [c3]
      by_cases c4 : kk % 10 = 4
      · replace c4 : (kk % 10 == 4) = true := by simp [c4]
        go_wp2_with fail
        refine (clear_any C _ l hS2.ck).mono ?_
        rintro e w5 ⟨rfl, hA5, hF5⟩
        have hS5 := hS2.call hA5 hF5
        clear hS2 hA5 hF5
        have hF := Fr.of_below (S := fun _ => False) ((Below.refl w5.heap.size w5).alloc (Nat.le_refl _) (.cells #[.int .i64 0, .int .i64 0, .int .i64 0, .int .i64 0, .int .i64 0, .int .i64 0, .int .i64 0, .int .i64 0] 3))
        have hS6 : CS w _ C w5.heap.size [0, 0, 0, 0, 0, 0, 0, 0] [0, 0, 0, 0, 0, 0, 0, 0] := ⟨hS5.ck.alloc (.cells #[.int .i64 0, .int .i64 0, .int .i64 0, .int .i64 0, .int .i64 0, .int .i64 0, .int .i64 0, .int .i64 0] 3), Blk.new w5 [.int .i64 0, .int .i64 0, .int .i64 0, .int .i64 0, .int .i64 0, .int .i64 0, .int .i64 0, .int .i64 0] 3, hS5.bel.alloc hS5.bel.size _, fun e => by have := hS5.ck.lt; omega, hS5.bel.size, hS5.co, rfl⟩
        clear hS5 hF
        go_wp2
        go_meet
        exact ⟨_, _, rfl, hS6⟩
      replace c4 : (kk % 10 == 4) = false := by simp [c4]
      as_aux_lemma =>
        go_wp2_with fail
        refine (tick_at C _ l (tickO l 8) hS2.ck rfl).mono ?_
        rintro e w5 ⟨A, cp, rfl, hR, hCk, hF5⟩
        have hbl := hS2.ck.2.2
        have hS5 := hS2.call hCk hF5
        have hlen := hS2.len
        have hLw := hS2.blk.lt
        have hCw := hS2.ck.lt
        simp only [World.size_alloc] at hR hLw hCw
        clear hS2 hF5 hCk c0 c3 c4 ba bn bk hlt hk
        go_wp2_with fail
        go_loopw [15, 16] (fun m t wx => ∃ n : Nat, n ≤ 8 ∧ t = .int .i64 n ∧ m = .int .i64 ((tickO l n).length : Nat) ∧ CS w wx C L (tickL l) (tickP l n) ∧ Fr (fun k => k = C ∨ k = L) w5 wx) (fun _ t _ => 8 - (intOf t).toNat)
        case atStart => exact ⟨0, by omega, rfl, rfl, by unfold tickP; simpa using hS5, Fr.refl _ _⟩
        case round =>
          clear hS5
          obtain ⟨n, hn, rfl, rfl, hQ, hF⟩ := hrel
          by_cases hn8 : n < 8
          case neg =>
            have h8 : n = 8 := by omega
            subst h8
            have hE : CS w wr C L (tickL l) (tickL l) := by
              have := hQ
              rwa [show tickP l 8 = tickL l from by unfold tickP tickL; rw [List.take_of_length_le (by omega), List.drop_of_length_le (by omega)]; simp] at this
            go_wp2
            go_meet
            exact ⟨_, _, rfl, hE⟩
          have hz := hQ.cell n hn8
          rw [tickP_at l n (by omega)] at hz
          have fz := hQ.frozen n
          obtain ⟨x0, hx0⟩ : ∃ x0, l.getD n 0 = x0 := ⟨_, rfl⟩
          have hxb : 0 ≤ x0 ∧ x0 ≤ 4294967296 := by rw [← hx0, List.getD_eq_getElem?_getD, List.getElem?_eq_getElem (by omega)]; exact hbl _ (List.getElem_mem _)
          rw [hx0] at hz
          have hset := tickP_succ l n (by omega)
          rw [hx0] at hset
          by_cases e1 : x0 = 1
          · subst e1
            obtain ⟨hlt8, hat⟩ := tickO_at l n hn8 hx0
            obtain ⟨g, hAg, hg0, hgl, hgc⟩ := hR (by omega)
            subst hAg
            have hc5 := hgc _ hlt8
            rw [hat] at hc5
            have hgL : g ≠ L := by omega
            have hgC : g ≠ C := by omega
            have hcw : wr.cell? ⟨g, (tickO l n).length, none⟩ = some (.int .i64 (n : Int)) := by
              rw [← hc5]
              exact World.cell?_of_block (w := w5) (hF.block _ hgl (by rintro (e | e); exact hgC e; exact hgL e))
            have hO := tickO_yes l n hx0
            have hOl : (tickO l (n + 1)).length = (tickO l n).length + 1 := by rw [hO, List.length_append]; rfl
            have hO8 := tickO_length l 8
            have hlti : ((tickO l n).length : Int) < ((tickO l 8).length : Int) := by omega
            generalize hmm : (tickO l n).length = mm at *
            generalize hoo : (tickO l 8).length = oo at *
            have hQ1 := hQ.put n 0
            rw [show (0 : Int) = dec1 1 from rfl, ← hset] at hQ1
            have hF1 : Fr (fun k => k = C ∨ k = L) w5 (wr.setCell ⟨L, n, none⟩ (.int .i64 0)) := hF.setCell (.inl (.inr rfl)) _
            clear hQ hF hc5 hgc hR hO hset
            go_wp2
            exact ⟨⟨n + 1, by omega, by go_num, by rw [hOl]; go_num, hQ1, hF1⟩, by simp [intOf]; omega⟩
          have hO := tickO_no l n (by rw [hx0]; exact e1)
          by_cases e0 : x0 = 0
          · subst e0
            have hQ' := hQ
            rw [← tickP_same l n (by omega) (by rw [hx0]; rfl)] at hQ'
            clear hset hQ
            go_wp2
            exact ⟨⟨n + 1, by omega, by go_num, by rw [hO], hQ', hF⟩, by simp [intOf]; omega⟩
          · have hQ1 := hQ.put n (x0 - 1)
            have hd1 : dec1 x0 = x0 - 1 := by unfold dec1; rw [if_pos (by omega)]
            rw [hd1] at hset
            rw [← hset] at hQ1
            have hF' : Fr (fun k => k = C ∨ k = L) w5 (wr.setCell ⟨L, n, none⟩ (.int .i64 (x0 - 1))) := hF.setCell (.inl (.inr rfl)) _
            have e0b : (x0 - 1 == 0) = false := by simp; omega
            have hpos : (0 : Int) < x0 := by omega
            clear hset hQ
            go_wp2
            exact ⟨⟨n + 1, by omega, by go_num, by rw [hO], hQ1, hF'⟩, by simp [intOf]; omega⟩
    case rest =>
      as_aux_lemma =>
        clear hS hS2
        obtain ⟨L', l', rfl, hP⟩ := hcut
        go_wp2_with fail
        go_loopw [17, 18] (fun ls t wx => ∃ m : Nat, m ≤ 8 ∧ t = .int .i64 m ∧ ls = .int .i64 (leastL (l'.take m)) ∧ CS w wx C L' l' l') (fun _ t _ => 8 - (intOf t).toNat)
        case atStart => exact ⟨0, by omega, rfl, rfl, hP⟩
        case round =>
          clear hP
          obtain ⟨m, hm, rfl, rfl, hP⟩ := hrel
          have hlen := hP.len
          by_cases hm8 : m < 8
          case neg =>
            have h8 : m = 8 := by omega
            subst h8
            rw [List.take_of_length_le (by omega)]
            go_wp2_with fail
            refine (least_any C _ l' hP.ck).mono ?_
            rintro e w5 ⟨rfl, rfl⟩
            go_wp2_with fail
            refine (cleft_same C _ _ _ l' hP.ck (cleft_out l').1).mono ?_
            rintro e w6 ⟨rfl, rfl⟩
            go_wp2_with fail
            refine (con_same C _ _ _ l' hP.ck (cleft_out l').2).mono ?_
            rintro e w7 ⟨rfl, rfl⟩
            go_wp2
            exact ⟨⟨k + 1, L', l', rfl, by go_num, by omega, hP⟩, by simp [intOf]; omega⟩
          obtain ⟨v, hv⟩ : ∃ v, l'.getD m 0 = v := ⟨_, rfl⟩
          have hz := hP.cell m hm8
          have hle := leastL_take l' m (by omega)
          rw [hv] at hz hle
          obtain ⟨q, hq⟩ : ∃ q, leastL (l'.take m) = q := ⟨_, rfl⟩
          rw [hq] at hle ⊢
          have hq1 : ∀ n, Calls Try.prog 18 #[.pointer (some ⟨C, 0, none⟩), .int .i64 (m : Int)] (wr.drewN n) fun e w' => e = .returned (.int .i64 v) ∧ w' = wr.drewN n := fun n => cleft_same C m v (wr.drewN n) l' (hP.drewN n).ck (by rw [cleft_at _ _ hm8, hv])
          have hq2 : ∀ n, Calls Try.prog 17 #[.pointer (some ⟨C, 0, none⟩), .int .i64 (m : Int)] (wr.drewN n) fun e w' => e = .returned (.bool (decide (0 < v))) ∧ w' = wr.drewN n := fun n => con_same C m v (wr.drewN n) l' (hP.drewN n).ck (by rw [cleft_at _ _ hm8, hv])
          clear hq
          go_upto_region 47 with fail
          go_quiet (first | (go_at_call 18; exact Calls.quiet_of_same (hq1 _)) | (go_at_call 17; exact Calls.quiet_of_same (hq2 _)))
          clear hq1 hq2
          rcases (by omega : ¬ 0 < v ∨ (0 < v ∧ q = 0) ∨ (0 < v ∧ q ≠ 0 ∧ v < q) ∨ (0 < v ∧ q ≠ 0 ∧ ¬ v < q)) with g | ⟨g, g1⟩ | ⟨g, g1, g2⟩ | ⟨g, g1, g2⟩
          · have hw : leastF q v = q := by unfold leastF; rw [if_neg (by omega)]
            rw [hw] at hle
            clear hw
            go_wp2
            exact ⟨⟨m + 1, by omega, by go_num, by rw [hle], hP.drewN _⟩, by simp [intOf]; omega⟩
          · have hw : leastF q v = v := by unfold leastF; rw [if_pos (by omega)]
            rw [hw] at hle
            have g2 : (q == 0) = true := by simp [g1]
            clear hw g1
            go_wp2
            exact ⟨⟨m + 1, by omega, by go_num, by rw [hle], hP.drewN _⟩, by simp [intOf]; omega⟩
          · have hw : leastF q v = v := by unfold leastF; rw [if_pos (by omega)]
            rw [hw] at hle
            have g3 : (q == 0) = false := by simp [g1]
            clear hw g1
            go_wp2
            exact ⟨⟨m + 1, by omega, by go_num, by rw [hle], hP.drewN _⟩, by simp [intOf]; omega⟩
          · have hw : leastF q v = q := by unfold leastF; rw [if_neg (by omega)]
            rw [hw] at hle
            have g3 : (q == 0) = false := by simp [g1]
            clear hw g1
            go_wp2
            exact ⟨⟨m + 1, by omega, by go_num, by rw [hle], hP.drewN _⟩, by simp [intOf]; omega⟩
theorem cplay_row (a : Option Addr) (len cap : Nat) (zs : List Int) (W : World) (hz : Acts3 W a len ∧ len ≤ maxLen) : Calls Try.prog 5 #[.slice a len cap] W fun e w' => e = .returned (.bool true) ∧ Below W.heap.size W w' := by
  by_cases h : len ≤ 80
  · exact cplay_main a len cap W h hz.1
  · exact cplay_long a len cap W (by omega) hz.2
end Go.Proofs.Ytpalpoecakijnaa
