/-
  JamPlays: all that comes, in any order: who is busy, when a status is due, which timers run, when the link fails.
-/
import Derived.Test.YtpalpoecakijnaaPlayP
namespace Go.Proofs.Ytpalpoecakijnaa
open Go.RowKit
set_option linter.unusedVariables false
set_option linter.unusedSimpArgs false

set_option maxRecDepth 100000 in
theorem play_long (a : Option Addr) (len cap : Nat) (w : World) (h : 100 < len) (hm : len ≤ 9223372036854775807) : Calls Try.prog 10 #[.slice a len cap] w fun e w' => e = .returned (.bool true) ∧ Below w.heap.size w w' := by
  have h1 : (100 : Int) < len := by omega
  go_enter Try.func10, Try.ntmps10
  go_wp2_with fail
  refine (awake16_any _).mono ?_
  rintro e w1 ⟨rfl, hb1⟩
  go_wp2_with fail
  refine (awake16_any _).mono ?_
  rintro e w2 ⟨rfl, hb2⟩
  go_wp2
  go_ret
  exact ⟨rfl, bthen hb1 hb2⟩

abbrev jT : List Int := [1, 1, 1, 1, 1, 7, 30, 20]
theorem left_same (c : Nat) (i : Int) (w : World) (l : List Int) (hC : Ck w c l) :
    Calls Try.prog 18 #[.pointer (some ⟨c, 0, none⟩), .int .i64 i] w fun e w' => e = .returned (.int .i64 (leftV l i)) ∧ w' = w :=
  (left_any c i w l hC).mono fun _ _ ⟨h1, h2⟩ => ⟨h1, h2.symm⟩

/-- The jam, its clock, and the list in block L. -/
def PS (w0 w : World) (j C L : Nat) (s : JS) (l : List Int) : Prop := JC w j C uS jT s ∧ Blk w L (l.map (Value.int .i64)) 23 ∧ Below w0.heap.size w0 w
theorem PS.put {w0 w : World} {j C L : Nat} {s : JS} {l : List Int} (h : PS w0 w j C L s l) (hj : L ≠ j) (hC : L ≠ C) (hL : w0.heap.size ≤ L) (i : Nat) (v : Int) : PS w0 (w.setCell ⟨L, i, none⟩ (.int .i64 v)) j C L s (l.set i v) :=
  ⟨h.1.fr (Fr.set1 w ⟨L, i, none⟩ (.int .i64 v)) (fun e => hj e.symm) (fun e => hC e.symm), by rw [List.map_set]; exact h.2.1.set i _, h.2.2.trans ((Fr.set1 w ⟨L, i, none⟩ (.int .i64 v)).below h.2.2.size (fun k hk => by rw [hk]; exact hL))⟩
theorem PS.call {w0 w w' : World} {j C L : Nat} {s s' : JS} {l : List Int} (h : PS w0 w j C L s l) (hA : JC w' j C uS jT s') (hF : Fr (two j C) w w') (hj : L ≠ j) (hC : L ≠ C) (hjB : w0.heap.size ≤ j) (hcB : w0.heap.size ≤ C) : PS w0 w' j C L s' l :=
  ⟨hA, h.2.1.fr hF (by rintro (e | e); exact hj e; exact hC e), h.2.2.trans (hF.two_below hjB hcB h.2.2.size)⟩
theorem PS.cell {w0 w : World} {j C L : Nat} {s : JS} {l : List Int} (h : PS w0 w j C L s l) (hl : l.length = 8) (i : Nat) (hi : i < 8) : w.cell? ⟨L, i, none⟩ = some (.int .i64 (l.getD i 0)) := by
  refine h.2.1.cell i ?_
  rw [List.getElem?_map, List.getD_eq_getElem?_getD, List.getElem?_eq_getElem (by omega)]
  rfl
theorem PS.frozen {w0 w : World} {j C L : Nat} {s : JS} {l : List Int} (h : PS w0 w j C L s l) (i : Nat) : w.frozen? ⟨L, i, none⟩ = false := h.2.1.frozen i
theorem PS.len {w0 w : World} {j C L : Nat} {s : JS} {l : List Int} (h : PS w0 w j C L s l) : s.l.length = 8 := h.1.ck.2.1
theorem leftV_at (l : List Int) (m : Nat) (h : m < 8) : leftV l (m : Int) = l.getD m 0 := by
  unfold leftV tOk
  simp
  omega

set_option maxRecDepth 100000 in
set_option maxHeartbeats 4000000 in
theorem play_main (a : Option Addr) (len cap : Nat) (w : World) (h : len ≤ 100) (hz : Acts w a len) : Calls Try.prog 10 #[.slice a len cap] w fun e w' => e = .returned (.bool true) ∧ Below w.heap.size w w' := by
  have Hz := Lib.hid hz
  clear hz
  have h1 : ¬ ((100 : Int) < len) := by omega
  go_enter Try.func10, Try.ntmps10
  go_wp2_with fail
  refine (awake16_any _).mono ?_
  rintro e w0 ⟨rfl, hB⟩
  go_wp2_with fail
  refine (usual_any _ _).mono ?_
  rintro e w1 ⟨rfl, hb⟩
  replace hB := bthen hB hb
  have hs1 := hB.size
  clear hb
  have hC := Ck.new (w1.alloc (.cells #[.bool false, .int .i64 8, .int .i64 300, .int .i64 16, .int .i64 600, .int .i64 1, .int .i64 1, .int .i64 1, .int .i64 1, .int .i64 1, .int .i64 7, .int .i64 30, .int .i64 20] 34))
  replace hB := (hB.alloc hs1 (.cells #[.bool false, .int .i64 8, .int .i64 300, .int .i64 16, .int .i64 600, .int .i64 1, .int .i64 1, .int .i64 1, .int .i64 1, .int .i64 1, .int .i64 7, .int .i64 30, .int .i64 20] 34)).alloc (by simp; omega) (.cells #[.int .i64 0, .int .i64 0, .int .i64 0, .int .i64 0, .int .i64 0, .int .i64 0, .int .i64 0, .int .i64 0] 25)
  rw [World.size_alloc] at hC
  go_wp2_with fail
  refine (jnew_any _ _ _ _ _ _ _ _ _ _ _ _ _ _ _ _ hC).mono ?_
  rintro e w2 ⟨j, rfl, hj, hJ, hb⟩
  have hjB : w.heap.size ≤ j := by simp only [World.size_alloc] at hj; omega
  have hcB : w.heap.size ≤ w1.heap.size + 1 := by omega
  replace hB := bthen hB hb
  have hs2 := hB.size
  clear hC hb hj
  generalize w1.heap.size + 1 = C at *
  have hCl := hJ.ck.lt
  have hjl := hJ.blk.lt
  have hJ3 := hJ.fr (X := fun _ => False) (.of_below ((Below.refl _ _).alloc (Nat.le_refl _) (.cells #[.int .i64 0, .int .i64 0, .int .i64 0, .int .i64 0, .int .i64 0, .int .i64 0, .int .i64 0, .int .i64 0] 23))) (fun h => h) (fun h => h)
  have hL := Blk.new w2 [.int .i64 0, .int .i64 0, .int .i64 0, .int .i64 0, .int .i64 0, .int .i64 0, .int .i64 0, .int .i64 0] 23
  have hB3 := hB.alloc hs2 (.cells #[.int .i64 0, .int .i64 0, .int .i64 0, .int .i64 0, .int .i64 0, .int .i64 0, .int .i64 0, .int .i64 0] 23)
  go_wp2_with fail
  have hLB : w.heap.size ≤ w2.heap.size := hs2
  have hLj : w2.heap.size ≠ j := by omega
  have hLC : w2.heap.size ≠ C := by omega
  generalize w2.heap.size = L at *
  go_loopw [6, 7, 8, 10] (fun ow th du i wr => ∃ (k : Nat) (s : JS), ow = .bool s.own ∧ th = .bool s.their ∧ du = .bool s.due ∧ i = .int .i64 k ∧ k ≤ len ∧ JC wr j C uS jT s ∧ Blk wr L (s.l.map (Value.int .i64)) 23 ∧ Below w.heap.size w wr) (fun _ _ _ i _ => len - (intOf i).toNat)
  case atStart => exact ⟨0, _, rfl, rfl, rfl, rfl, by omega, hJ3, hL, hB3⟩
  case round =>
    clear hJ3 hL hB3 hJ hB
    obtain ⟨k, s, rfl, rfl, rfl, rfl, hk, hA, hLl, hB⟩ := hrel
    have hsw := hB.size
    by_cases hlt : k < len
    case neg =>
      go_wp2
      go_ret
      exact ⟨rfl, hB⟩
    obtain ⟨x, kk, y, rfl, q0, q1, bk, by'⟩ := (Hz.out.below hB) k hlt
    have e1 : x.add (k * 2 + 1) = ⟨(x.add (k * 2)).block, (x.add (k * 2)).off + 1, none⟩ := by rw [← Go.Deep.add_add]; rfl
    rw [e1] at q1
    clear e1
    have hF0 : Fr (fun _ => False) wr (wr.alloc (.cells #[.int .u8 kk, .int .u8 y] 60)) := .of_below ((Below.refl _ _).alloc (Nat.le_refl _) _)
    have hA2 := hA.fr hF0 (fun h => h) (fun h => h)
    have hL2 := hLl.alloc (.cells #[.int .u8 kk, .int .u8 y] 60)
    have hB2 := hB.alloc hsw (.cells #[.int .u8 kk, .int .u8 y] 60)
    clear hF0
    go_upto_block 2 with fail
    go_cut [6, 7, 8] (fun ow th du wx => ∃ s' : JS, ow = .bool s'.own ∧ th = .bool s'.their ∧ du = .bool s'.due ∧ PS w wx j C L s' s'.l)
    case first =>
      have hP : PS w (wr.alloc (.cells #[.int .u8 kk, .int .u8 y] 60)) j C L s s.l := ⟨hA2, hL2, hB2⟩
      have hlen := hP.len
      clear hB hA2 hL2 hB2
      obtain ⟨own, their, due, l⟩ := s
      simp only at hlen hP
      by_cases c0 : kk % 12 = 0
      · replace c0 : (kk % 12 == 0) = true := by simp [c0]
        go_wp2_with fail
        refine (jbegin_any j _ _ _ _ _ hP.1).mono ?_
        rintro e w5 ⟨rfl, hA5, hF5⟩
        have hP5 := hP.call hA5 hF5 hLj hLC hjB hcB
        clear hP hA5 hF5
        have z5 := hP5.cell hlen 5 (by decide)
        have f5 := hP5.frozen 5
        cases own
        · have hP6 := hP5.put hLj hLC hLB 5 7
          clear hP5
          go_wp2
          go_meet
          exact ⟨_, rfl, rfl, rfl, hP6⟩
        · go_wp2
          go_meet
          exact ⟨_, rfl, rfl, rfl, hP5⟩
      replace c0 : (kk % 12 == 0) = false := by simp [c0]
      by_cases c1 : kk % 12 = 1
      · replace c1 : (kk % 12 == 1) = true := by simp [c1]
        go_wp2_with fail
        refine (jend_any j _ _ _ _ _ hP.1).mono ?_
        rintro e w5 ⟨rfl, hA5, hF5⟩
        have hP5 := hP.call hA5 hF5 hLj hLC hjB hcB
        clear hP hA5 hF5
        have z5 := hP5.cell hlen 5 (by decide)
        have f5 := hP5.frozen 5
        have hP6 := hP5.put hLj hLC hLB 5 0
        clear hP5
        go_wp2
        go_meet
        exact ⟨_, rfl, rfl, rfl, hP6⟩
      replace c1 : (kk % 12 == 1) = false := by simp [c1]
      by_cases c4 : kk % 12 < 4
      · go_wp2_with fail
        refine (jdue_any j _ _ _ _ _ hP.1).mono ?_
        rintro e w5 ⟨rfl, hA5, hF5⟩
        have hP5 := hP.call hA5 hF5 hLj hLC hjB hcB
        clear hP hA5 hF5
        go_wp2
        go_meet
        exact ⟨_, rfl, rfl, rfl, hP5⟩
      by_cases c5 : kk % 12 < 6
      · obtain ⟨wt, hwt⟩ : ∃ b, (y % 2 == 0) = b := ⟨_, rfl⟩
        go_wp2_with fail
        refine (jheard_any j _ _ _ _ wt _ hP.1).mono ?_
        rintro e w5 ⟨rfl, hA5, hF5⟩
        have hP5 := hP.call hA5 hF5 hLj hLC hjB hcB
        clear hP hA5 hF5
        have z6 := hP5.cell hlen 6 (by decide)
        have f6 := hP5.frozen 6
        have z7 := hP5.cell hlen 7 (by decide)
        have f7 := hP5.frozen 7
        cases wt <;> cases their
        · have hP6 := hP5.put hLj hLC hLB 6 30
          clear hP5
          go_wp2
          go_meet
          exact ⟨_, rfl, rfl, rfl, hP6⟩
        · go_wp2
          go_meet
          exact ⟨_, rfl, rfl, rfl, hP5⟩
        · have hP6 := (hP5.put hLj hLC hLB 7 20).put hLj hLC hLB 6 30
          clear hP5
          go_wp2
          go_meet
          exact ⟨_, rfl, rfl, rfl, hP6⟩
        · have hP6 := hP5.put hLj hLC hLB 7 20
          clear hP5
          go_wp2
          go_meet
          exact ⟨_, rfl, rfl, rfl, hP6⟩
      by_cases c6 : kk % 12 = 6
      · replace c6 : (kk % 12 == 6) = true := by simp [c6]
        go_wp2_with fail
        refine (janswer_any j _ _ _ _ _ hP.1).mono ?_
        rintro e w5 ⟨rfl, hA5, hF5⟩
        have hP5 := hP.call hA5 hF5 hLj hLC hjB hcB
        clear hP hA5 hF5
        have z6 := hP5.cell hlen 6 (by decide)
        have f6 := hP5.frozen 6
        cases their
        · go_wp2
          go_meet
          exact ⟨_, rfl, rfl, rfl, hP5⟩
        · have hP6 := hP5.put hLj hLC hLB 6 0
          clear hP5
          go_wp2
          go_meet
          exact ⟨_, rfl, rfl, rfl, hP6⟩
      replace c6 : (kk % 12 == 6) = false := by simp [c6]
      by_cases c7 : kk % 12 = 7
      · replace c7 : (kk % 12 == 7) = true := by simp [c7]
        by_cases y4 : y % 4 = 0
        · replace y4 : (y % 4 == 0) = true := by simp [y4]
          go_wp2_with fail
          refine (jclear_any j _ _ _ _ _ hP.1).mono ?_
          rintro e w5 ⟨rfl, hA5, hF5⟩
          have hP5 := hP.call hA5 hF5 hLj hLC hjB hcB
          clear hP hA5 hF5
          have z5 := hP5.cell hlen 5 (by decide)
          have f5 := hP5.frozen 5
          have z6 := hP5.cell hlen 6 (by decide)
          have f6 := hP5.frozen 6
          have hP6 := (hP5.put hLj hLC hLB 5 0).put hLj hLC hLB 6 0
          clear hP5
          go_wp2
          go_meet
          exact ⟨_, rfl, rfl, rfl, hP6⟩
        · replace y4 : (y % 4 == 0) = false := by simp [y4]
          go_wp2
          go_meet
          exact ⟨_, rfl, rfl, rfl, hP⟩
      replace c7 : (kk % 12 == 7) = false := by simp [c7]
      as_aux_lemma =>
        go_wp2_with fail
        refine (tick_at C _ l (tickO l 8) hP.1.ck rfl).mono ?_
        rintro e w5 ⟨A, cp, rfl, hR, hCk, hF5⟩
        have hA5 := hP.1.clk hF5 hCk
        have hbl := hP.1.ck.2.2
        have hP5 : PS w w5 j C L ⟨own, their, due, tickL l⟩ l := ⟨hA5, hP.2.1.fr hF5 (fun e => hLC e), hP.2.2.trans (hF5.new hcB hP.2.2.size)⟩
        have hLw := hLl.lt
        have hjw := hA.blk.lt
        have hCw := hA.ck.lt
        simp only [World.size_alloc] at hR
        clear hP hA5 hF5 hCk c0 c1 c4 c5 c6 c7 q0 q1
        have b0 : tdue own due l 0 = due := by unfold tdue; rw [if_neg (fun h => absurd h.1 (by decide))]
        go_wp2_with fail
        go_loopw [8, 15, 16] (fun du m t wx => ∃ n : Nat, n ≤ 8 ∧ t = .int .i64 n ∧ m = .int .i64 ((tickO l n).length : Nat) ∧ du = .bool (tdue own due l n) ∧ PS w wx j C L ⟨own, their, tdue own due l n, tk own l n⟩ (lf own l n) ∧ Fr (fun k => k = j ∨ k = C ∨ k = L) w5 wx) (fun _ _ t _ => 8 - (intOf t).toNat)
        case atStart => exact ⟨0, by omega, rfl, rfl, by rw [b0], by rw [b0, lf_begin.1, lf_begin.2]; exact hP5, Fr.refl _ _⟩
        case round =>
          clear hP5 b0
          obtain ⟨n, hn, rfl, rfl, rfl, hQ, hF⟩ := hrel
          by_cases hn8 : n < 8
          case neg =>
            have h8 : n = 8 := by omega
            subst h8
            have hE : PS w wr j C L ⟨own, their, tdue own due l 8, tk own l 8⟩ (tk own l 8) := by have := hQ; rw [lf_end hlen] at this; exact this
            go_wp2
            go_meet
            exact ⟨⟨own, their, tdue own due l 8, tk own l 8⟩, rfl, rfl, rfl, hE⟩
          have hz := hQ.cell (lf_len hlen n hn) n hn8
          rw [lf_at hlen n hn8] at hz
          have fz := hQ.frozen n
          obtain ⟨x0, hx0⟩ : ∃ x0, l.getD n 0 = x0 := ⟨_, rfl⟩
          have hxb : 0 ≤ x0 ∧ x0 ≤ 4294967296 := by rw [← hx0, List.getD_eq_getElem?_getD, List.getElem?_eq_getElem (by omega)]; exact hbl _ (List.getElem_mem _)
          rw [hx0] at hz
          have hset := fun hs => lf_succ (own := own) hlen n hn8 hs
          rw [hx0] at hset
          by_cases e1 : x0 = 1
          · subst e1
            obtain ⟨hlt8, hat⟩ := tickO_at l n hn8 hx0
            obtain ⟨g, hAg, hg0, hgl, hgc⟩ := hR (by omega)
            subst hAg
            have hc5 := hgc _ hlt8
            rw [hat] at hc5
            have hgL : g ≠ L := by omega
            have hgj : g ≠ j := by omega
            have hgC : g ≠ C := by omega
            have hcw : wr.cell? ⟨g, (tickO l n).length, none⟩ = some (.int .i64 (n : Int)) := by
              rw [← hc5]
              exact World.cell?_of_block (w := w5) (hF.block _ hgl (by rintro (e | e | e); exact hgj e; exact hgC e; exact hgL e))
            have hO := tickO_yes l n hx0
            have hOl : (tickO l (n + 1)).length = (tickO l n).length + 1 := by rw [hO, List.length_append]; rfl
            have hO8 := tickO_length l 8
            have hlti : ((tickO l n).length : Int) < ((tickO l 8).length : Int) := by omega
            generalize hmm : (tickO l n).length = mm at *
            generalize hoo : (tickO l 8).length = oo at *
            have hQ1 := hQ.put hLj hLC hLB n 0
            have hF1 : Fr (fun k => k = j ∨ k = C ∨ k = L) w5 (wr.setCell ⟨L, n, none⟩ (.int .i64 0)) := hF.setCell (.inl (.inr (.inr rfl))) _
            clear hQ hF hc5 hgc hR hO
            go_wp2_with fail
            refine (jout_any j _ _ _ _ (n : Int) _ hQ1.1).mono ?_
            rintro e w7 ⟨rfl, hA7, hF7⟩
            have hQ2 := hQ1.call hA7 hF7 hLj hLC hjB hcB
            have hF2 : Fr (fun k => k = j ∨ k = C ∨ k = L) w5 w7 := hF1.then_ (hF7.mono (fun k hk => by rcases hk with h | h; exact .inl h; exact .inr (.inl h)))
            clear hQ1 hF1 hA7 hF7 hz fz hcw
            by_cases n5 : n = 5
            · subst n5
              rw [show jWhy ((5 : Nat) : Int) ⟨own, their, tdue own due l 5, tk own l 5⟩ = 0 from by simp [jWhy]]
              cases own
              · have hs : l.getD 5 0 ≠ 1 ∨ 5 ≠ 5 ∨ false = false := .inr (.inr rfl)
                have hQ' : PS w w7 j C L ⟨false, their, tdue false due l 6, tk false l 6⟩ (lf false l 6) := by
                  rw [tdue_same (n := 5) hs, tk_same (n := 5) hs, hset (.inr (.inr rfl))]; exact hQ2
                have hdu := tdue_same (due := due) (n := 5) hs
                clear hset hQ2
                go_wp2
                exact ⟨⟨6, by omega, by go_num, by rw [hOl]; go_num, by rw [hdu], hQ', hF2⟩, by simp [intOf]⟩
              · have z5 := hQ2.cell (by rw [List.length_set, lf_len hlen 5 hn]) 5 (by decide)
                have f5 := hQ2.frozen 5
                obtain ⟨g1, g2, g3⟩ := lf_again hlen hx0
                have hQ3 := hQ2.put hLj hLC hLB 5 7
                have h6 : tdue true due l 6 = true := by unfold tdue; rw [if_pos ⟨by decide, hx0, rfl⟩]
                have hQ' : PS w (w7.setCell ⟨L, 5, none⟩ (.int .i64 7)) j C L ⟨true, their, tdue true due l 6, tk true l 6⟩ (lf true l 6) := by
                  rw [h6, g1, g2, ← g3]; exact hQ3
                have hF3 : Fr (fun k => k = j ∨ k = C ∨ k = L) w5 (w7.setCell ⟨L, 5, none⟩ (.int .i64 7)) := hF2.setCell (.inl (.inr (.inr rfl))) _
                clear hset hQ2 hQ3 g1 g2 g3
                go_wp2
                exact ⟨⟨6, by omega, by go_num, by rw [hOl]; go_num, by rw [h6], hQ', hF3⟩, by simp [intOf]⟩
            · have hs : l.getD n 0 ≠ 1 ∨ n ≠ 5 ∨ own = false := .inr (.inl n5)
              have hJ0 : jOut jT (n : Int) ⟨own, their, tdue own due l n, tk own l n⟩ = ⟨own, their, tdue own due l n, tk own l n⟩ := by unfold jOut; rw [if_neg (by omega)]
              rw [hJ0] at hQ2
              have hQ' : PS w w7 j C L ⟨own, their, tdue own due l (n + 1), tk own l (n + 1)⟩ (lf own l (n + 1)) := by
                rw [tdue_same hs, tk_same hs, hset (.inr (.inl n5))]; exact hQ2
              have hdu := tdue_same (due := due) hs
              have b5 : ((n : Int) == 5) = false := by simp; omega
              clear hset hQ2 hJ0
              by_cases n6 : n = 6
              · subst n6
                cases their
                · rw [show jWhy ((6 : Nat) : Int) ⟨own, false, tdue own due l 6, tk own l 6⟩ = 0 from by simp [jWhy]]
                  go_wp2
                  exact ⟨⟨7, by omega, by go_num, by rw [hOl]; go_num, by rw [hdu], hQ', hF2⟩, by simp [intOf]⟩
                · rw [show jWhy ((6 : Nat) : Int) ⟨own, true, tdue own due l 6, tk own l 6⟩ = 3 from by simp [jWhy]]
                  go_wp2
                  exact ⟨⟨7, by omega, by go_num, by rw [hOl]; go_num, by rw [hdu], hQ', hF2⟩, by simp [intOf]⟩
              · rw [show jWhy (n : Int) ⟨own, their, tdue own due l n, tk own l n⟩ = 0 from by unfold jWhy; rw [if_neg (by omega)]]
                have b6 : ((n : Int) == 6) = false := by simp; omega
                go_wp2
                exact ⟨⟨n + 1, by omega, by go_num, by rw [hOl]; go_num, by rw [hdu], hQ', hF2⟩, by simp [intOf]; omega⟩
          have hs : l.getD n 0 ≠ 1 ∨ n ≠ 5 ∨ own = false := .inl (by rw [hx0]; exact e1)
          have hO := tickO_no l n (by rw [hx0]; exact e1)
          replace hset := hset (.inl e1)
          by_cases e0 : x0 = 0
          · subst e0
            have hsame : lf own l (n + 1) = lf own l n := by
              rw [hset]
              have hg := lf_at (own := own) hlen n hn8
              rw [hx0, List.getD_eq_getElem?_getD, List.getElem?_eq_getElem (by rw [lf_len hlen n hn]; exact hn8)] at hg
              show (lf own l n).set n 0 = _
              rw [show (0 : Int) = (lf own l n)[n]'(by rw [lf_len hlen n hn]; exact hn8) from hg.symm, List.set_getElem_self]
            have hQ' : PS w wr j C L ⟨own, their, tdue own due l (n + 1), tk own l (n + 1)⟩ (lf own l (n + 1)) := by rw [tdue_same hs, tk_same hs, hsame]; exact hQ
            have hdu := tdue_same (due := due) hs
            clear hset hsame
            go_wp2
            exact ⟨⟨n + 1, by omega, by go_num, by rw [hO], by rw [hdu], hQ', hF⟩, by simp [intOf]; omega⟩
          · have hQ1 := hQ.put hLj hLC hLB n (x0 - 1)
            have hd1 : dec1 x0 = x0 - 1 := by unfold dec1; rw [if_pos (by omega)]
            rw [hd1] at hset
            have hQ' : PS w (wr.setCell ⟨L, n, none⟩ (.int .i64 (x0 - 1))) j C L ⟨own, their, tdue own due l (n + 1), tk own l (n + 1)⟩ (lf own l (n + 1)) := by rw [tdue_same hs, tk_same hs, hset]; exact hQ1
            have hF' : Fr (fun k => k = j ∨ k = C ∨ k = L) w5 (wr.setCell ⟨L, n, none⟩ (.int .i64 (x0 - 1))) := hF.setCell (.inl (.inr (.inr rfl))) _
            have hdu := tdue_same (due := due) hs
            have e0b : (x0 == 0) = false := by simp [e0]
            have hpos : (0 : Int) < x0 - 1 := by omega
            clear hset hQ1 hQ
            go_wp2
            exact ⟨⟨n + 1, by omega, by go_num, by rw [hO], by rw [hdu], hQ', hF'⟩, by simp [intOf]; omega⟩
    case rest =>
      as_aux_lemma =>
        clear hA hLl hB hA2 hL2 hB2
        obtain ⟨s', rfl, rfl, rfl, hP⟩ := hcut
        have h14 := hP.1.own
        have h15 := hP.1.their
        have hlen := hP.len
        go_wp2_with fail
        clear h14 h15
        go_loopw [18] (fun t wx => ∃ m : Nat, m ≤ 8 ∧ t = .int .i64 m ∧ PS w wx j C L s' s'.l) (fun t _ => 8 - (intOf t).toNat)
        case atStart => exact ⟨0, by omega, rfl, hP⟩
        case round =>
          clear hP
          obtain ⟨m, hm, rfl, hP⟩ := hrel
          by_cases hm8 : m < 8
          · obtain ⟨v, hv⟩ : ∃ v, s'.l.getD m 0 = v := ⟨_, rfl⟩
            have hz := hP.cell hlen m hm8
            rw [hv] at hz
            have hq : ∀ n, Calls Try.prog 18 #[.pointer (some ⟨C, 0, none⟩), .int .i64 (m : Int)] (wr.drewN n) fun e w' => e = .returned (.int .i64 v) ∧ w' = wr.drewN n := fun n => by
              have := left_same C m (wr.drewN n) s'.l ((hP.1.drewN n).ck)
              rw [leftV_at _ _ hm8, hv] at this
              exact this
            go_upto_region 78 with fail
            go_quiet ((go_at_call 18; exact Calls.quiet_of_same (hq _)))
            go_wp2
            exact ⟨⟨m + 1, by omega, by go_num, hP.1.drewN _, hP.2.1.drewN _, below_drewN hP.2.2 _⟩, by simp [intOf]; omega⟩
          · go_wp2
            exact ⟨⟨k + 1, s', rfl, rfl, rfl, by go_num, by omega, hP.1, hP.2.1, hP.2.2⟩, by simp [intOf]; omega⟩
theorem play_row (a : Option Addr) (len cap : Nat) (zs : List Int) (W : World) (hz : Acts W a len ∧ len ≤ maxLen) : Calls Try.prog 10 #[.slice a len cap] W fun e w' => e = .returned (.bool true) ∧ Below W.heap.size W w' := by
  by_cases h : len ≤ 100
  · exact play_main a len cap W h hz.1
  · exact play_long a len cap W (by omega) hz.2
end Go.Proofs.Ytpalpoecakijnaa
