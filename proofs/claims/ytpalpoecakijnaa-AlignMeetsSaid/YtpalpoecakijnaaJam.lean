/-
  The contracts of jam's functions, over a jam and its clock, each a block of its own.
-/
import Derived.Test.YtpalpoecakijnaaClock2
namespace Go.Proofs.Ytpalpoecakijnaa
open Go.RowKit
set_option linter.unusedVariables false
set_option linter.unusedSimpArgs false

/-- A jam, and what its clock has left. -/
structure JS where
  own : Bool
  their : Bool
  due : Bool
  l : List Int

/-- Block j is a jam with the timers' times T and the clock in block c, and stands as s tells. -/
structure JC (w : World) (j c : Nat) (S : List Value) (T : List Int) (s : JS) : Prop where
  blk : Blk w j (S ++ (T.map (Value.int .i64) ++ [.pointer (some ⟨c, 0, none⟩), .bool s.own, .bool s.their, .bool s.due])) 62
  sl : S.length = 5
  tl : T.length = 8
  ck : Ck w c s.l
  ne : j ≠ c

section
variable {w w' : World} {j c : Nat} {S : List Value} {T : List Int} {s : JS}
theorem JC.time (h : JC w j c S T s) (i : Nat) (hi : i < 8) : w.cell? ⟨j, 5 + i, none⟩ = some (.int .i64 (T.getD i 0)) := by
  refine h.blk.cell (5 + i) ?_
  have h1 := h.sl
  have h2 := h.tl
  rw [List.getElem?_append_right (by omega), h1, Nat.add_sub_cancel_left, List.getElem?_append_left (by simp; omega), List.getElem?_map, List.getElem?_eq_getElem (by omega), List.getD_eq_getElem?_getD, List.getElem?_eq_getElem (by omega)]
  rfl
theorem JC.tail (h : JC w j c S T s) (i : Nat) {v : Value} (hi : ([.pointer (some ⟨c, 0, none⟩), .bool s.own, .bool s.their, .bool s.due] : List Value)[i]? = some v) : w.cell? ⟨j, 13 + i, none⟩ = some v := by
  refine h.blk.cell (13 + i) ?_
  have h1 := h.sl
  have h2 := h.tl
  rw [List.getElem?_append_right (by omega), List.getElem?_append_right (by simp; omega), List.length_map, h1, h2, show 13 + i - 5 - 8 = i from by omega]
  exact hi
theorem JC.clock (h : JC w j c S T s) : w.cell? ⟨j, 13, none⟩ = some (.pointer (some ⟨c, 0, none⟩)) := h.tail 0 rfl
theorem JC.own (h : JC w j c S T s) : w.cell? ⟨j, 14, none⟩ = some (.bool s.own) := h.tail 1 rfl
theorem JC.their (h : JC w j c S T s) : w.cell? ⟨j, 15, none⟩ = some (.bool s.their) := h.tail 2 rfl
theorem JC.due (h : JC w j c S T s) : w.cell? ⟨j, 16, none⟩ = some (.bool s.due) := h.tail 3 rfl
theorem JC.frozen (h : JC w j c S T s) (i : Nat) : w.frozen? ⟨j, i, none⟩ = false := h.blk.frozen i
theorem JC.set (h : JC w j c S T s) (i : Nat) (v : Value) : Blk (w.setCell ⟨j, 13 + i, none⟩ v) j (S ++ (T.map (Value.int .i64) ++ ([.pointer (some ⟨c, 0, none⟩), .bool s.own, .bool s.their, .bool s.due] : List Value).set i v)) 62 := by
  refine (h.blk.set (13 + i) v).as ?_
  have h1 := h.sl
  have h2 := h.tl
  rw [List.set_append_right _ _ (by omega), List.set_append_right _ _ (by simp; omega), List.length_map, h1, h2, show 13 + i - 5 - 8 = i from by omega]
theorem Ck.other {l : List Int} (h : Ck w c l) {a : Addr} (hn : c ≠ a.block) (v : Value) : Ck (w.setCell a v) c l := ⟨h.1.other hn v, h.2⟩
theorem JC.setOwn (h : JC w j c S T s) (b : Bool) : JC (w.setCell ⟨j, 14, none⟩ (.bool b)) j c S T { s with own := b } := ⟨h.set 1 (.bool b), h.sl, h.tl, h.ck.other (fun e => h.ne e.symm) _, h.ne⟩
theorem JC.setTheir (h : JC w j c S T s) (b : Bool) : JC (w.setCell ⟨j, 15, none⟩ (.bool b)) j c S T { s with their := b } := ⟨h.set 2 (.bool b), h.sl, h.tl, h.ck.other (fun e => h.ne e.symm) _, h.ne⟩
theorem JC.setDue (h : JC w j c S T s) (b : Bool) : JC (w.setCell ⟨j, 16, none⟩ (.bool b)) j c S T { s with due := b } := ⟨h.set 3 (.bool b), h.sl, h.tl, h.ck.other (fun e => h.ne e.symm) _, h.ne⟩
theorem JC.clk (h : JC w j c S T s) {l : List Int} (hF : Fr (· = c) w w') (hl : Ck w' c l) : JC w' j c S T { s with l := l } := ⟨h.blk.fr hF h.ne, h.sl, h.tl, hl, h.ne⟩
theorem JC.fr (h : JC w j c S T s) {X : Nat → Prop} (hF : Fr X w w') (h1 : ¬ X j) (h2 : ¬ X c) : JC w' j c S T s := ⟨h.blk.fr hF h1, h.sl, h.tl, h.ck.fr hF h2, h.ne⟩
theorem JC.drewN (h : JC w j c S T s) (n : Nat) : JC (w.drewN n) j c S T s := ⟨h.blk, h.sl, h.tl, h.ck, h.ne⟩
theorem JC.drew (h : JC w j c S T s) : JC w.drew j c S T s := ⟨h.blk, h.sl, h.tl, h.ck, h.ne⟩
end

abbrev two (j c : Nat) : Nat → Prop := fun k => k = j ∨ k = c
theorem Fr.toTwo {j c : Nat} {w w' : World} (h : Fr (· = c) w w') : Fr (two j c) w w' := h.mono fun _ hk => .inr hk
theorem Fr.setJ {j c : Nat} {a w : World} (h : Fr (two j c) a w) (i : Nat) (v : Value) : Fr (two j c) a (w.setCell ⟨j, i, none⟩ v) := h.setCell (.inl (.inl rfl)) v

def jBegin (T : List Int) (s : JS) : JS := if s.own = true then s else { s with own := true, due := true, l := startL s.l 5 (T.getD 5 0) }

theorem jbegin_any (j c : Nat) (S : List Value) (T : List Int) (s : JS) (w : World) (h : JC w j c S T s) :
    Calls Try.prog 23 #[.pointer (some ⟨j, 0, none⟩)] w fun e w' => e = .returned (.tuple #[]) ∧ JC w' j c S T (jBegin T s) ∧ Fr (two j c) w w' := by
  have h14 := h.own
  have h16 := h.due
  have h13 := h.clock
  have ht := h.time 5 (by omega)
  have hf := h.frozen
  obtain ⟨own, their, due, l⟩ := s
  cases own
  · have hv : Hid (jBegin T ⟨false, their, due, l⟩ = ⟨true, their, true, startL l 5 (T.getD 5 0)⟩) := rfl
    obtain ⟨x, hx⟩ : ∃ x, T.getD 5 0 = x := ⟨_, rfl⟩
    rw [hx] at ht
    have hx := Lib.hid hx
    go_enter Try.func23, Try.ntmps23
    go_upto_region 2 with fail
    have h2 := (h.setOwn true).setDue true
    have hF2 := ((Fr.refl (two j c) w).setJ 14 (.bool true)).setJ 16 (.bool true)
    have h13 := h2.clock
    have ht := h2.time 5 (by omega)
    rw [hx.out] at ht
    generalize (w.setCell ⟨j, 14, none⟩ (.bool true)).setCell ⟨j, 16, none⟩ (.bool true) = w2 at *
    go_still_tail 10, (by kernel_rfl)
    go_wp2_with fail
    refine (start_any c _ _ _ _ (h2.drew).ck).mono ?_
    rintro e w3 ⟨rfl, hC, hF⟩
    go_wp2
    go_end0
    exact ⟨rfl, by rw [hv.out, hx.out]; exact h2.drew.clk hF hC, hF2.drew.then_ hF.toTwo⟩
  · have hv : Hid (jBegin T ⟨true, their, due, l⟩ = ⟨true, their, due, l⟩) := rfl
    go_enter Try.func23, Try.ntmps23
    go_wp2
    go_end0
    exact ⟨rfl, by rw [hv.out]; exact h, Fr.refl _ _⟩

def jEnd (s : JS) : JS := { s with own := false, due := false, l := stopL s.l [5] }

theorem stop1_cells (w : World) (x : Int) (j : Nat) (hj : j < 1) : (w.alloc (.cells #[.int .i64 x] 3)).cell? ⟨w.heap.size, j, none⟩ = some (.int .i64 (([x] : List Int).getD j 0)) := by
  refine (Blk.new w [.int .i64 x] 3).cell j ?_
  rcases (by omega : j = 0) with rfl; rfl
theorem stop2_cells (w : World) (x y : Int) (j : Nat) (hj : j < 2) : (w.alloc (.cells #[.int .i64 x, .int .i64 y] 3)).cell? ⟨w.heap.size, j, none⟩ = some (.int .i64 (([x, y] : List Int).getD j 0)) := by
  refine (Blk.new w [.int .i64 x, .int .i64 y] 3).cell j ?_
  rcases (by omega : j = 0 ∨ j = 1) with rfl | rfl <;> rfl
/-- Stop of the clock with one timer, the variadic slice just made. -/
theorem stop1 (c : Nat) (x : Int) (b : Nat) (w : World) (l : List Int) (hC : Ck w c l) (hb : b = w.heap.size) :
    Calls Try.prog 27 #[.pointer (some ⟨c, 0, none⟩), .slice (some ⟨b, 0, none⟩) 1 1] (w.alloc (.cells #[.int .i64 x] 3)) fun e w' => e = .returned (.tuple #[]) ∧ Ck w' c (stopL l [x]) ∧ Fr (· = c) w w' := by
  subst hb
  refine (stop_any c w.heap.size 1 1 [x] _ l (hC.alloc _) rfl (by omega) (fun e => by have := hC.lt; omega) (stop1_cells w x)).mono ?_
  rintro e w' ⟨rfl, hC', hF⟩
  exact ⟨rfl, hC', ((Fr.refl _ _).alloc _).then_ hF⟩
theorem stop2 (c : Nat) (x y : Int) (b : Nat) (w : World) (l : List Int) (hC : Ck w c l) (hb : b = w.heap.size) :
    Calls Try.prog 27 #[.pointer (some ⟨c, 0, none⟩), .slice (some ⟨b, 0, none⟩) 2 2] (w.alloc (.cells #[.int .i64 x, .int .i64 y] 3)) fun e w' => e = .returned (.tuple #[]) ∧ Ck w' c (stopL l [x, y]) ∧ Fr (· = c) w w' := by
  subst hb
  refine (stop_any c w.heap.size 2 2 [x, y] _ l (hC.alloc _) rfl (by omega) (fun e => by have := hC.lt; omega) (stop2_cells w x y)).mono ?_
  rintro e w' ⟨rfl, hC', hF⟩
  exact ⟨rfl, hC', ((Fr.refl _ _).alloc _).then_ hF⟩

theorem jend_any (j c : Nat) (S : List Value) (T : List Int) (s : JS) (w : World) (h : JC w j c S T s) :
    Calls Try.prog 34 #[.pointer (some ⟨j, 0, none⟩)] w fun e w' => e = .returned (.tuple #[]) ∧ JC w' j c S T (jEnd s) ∧ Fr (two j c) w w' := by
  have h14 := h.own
  have h16 := h.due
  have h13 := h.clock
  have hf := h.frozen
  have h2 := (h.setOwn false).setDue false
  have hF2 := ((Fr.refl (two j c) w).setJ 14 (.bool false)).setJ 16 (.bool false)
  have hlt := h2.ck.lt
  have hne := h.ne
  go_enter Try.func34, Try.ntmps34
  go_wp2_with fail
  refine (stop1 c 5 _ _ _ h2.ck (by simp)).mono ?_
  rintro e w3 ⟨rfl, hC, hF⟩
  go_wp2
  go_end0
  exact ⟨rfl, h2.clk hF hC, hF2.then_ hF.toTwo⟩

def jDue (s : JS) : JS := { s with due := false }
theorem jdue_any (j c : Nat) (S : List Value) (T : List Int) (s : JS) (w : World) (h : JC w j c S T s) :
    Calls Try.prog 24 #[.pointer (some ⟨j, 0, none⟩)] w fun e w' => e = .returned (.bool s.due) ∧ JC w' j c S T (jDue s) ∧ Fr (two j c) w w' := by
  have h16 := h.due
  have hf := h.frozen
  obtain ⟨own, their, due, l⟩ := s
  cases due
  · go_enter Try.func24, Try.ntmps24
    go_wp2
    go_ret
    exact ⟨rfl, h, Fr.refl _ _⟩
  · have h2 := h.setDue false
    have hF2 := (Fr.refl (two j c) w).setJ 16 (.bool false)
    go_enter Try.func24, Try.ntmps24
    go_wp2
    go_ret
    exact ⟨rfl, h2, hF2⟩

def jWait (T : List Int) (waits : Bool) (s : JS) : JS := if waits = true then { s with l := startL s.l 7 (T.getD 7 0) } else s
def jHeard (T : List Int) (waits : Bool) (s : JS) : JS :=
  if s.their = true then jWait T waits s else { jWait T waits s with their := true, l := startL (jWait T waits s).l 6 (T.getD 6 0) }
theorem jWait_their (T : List Int) (waits : Bool) (s : JS) : (jWait T waits s).their = s.their := by unfold jWait; split <;> rfl

set_option maxHeartbeats 1000000 in
theorem jheard_any (j c : Nat) (S : List Value) (T : List Int) (s : JS) (waits : Bool) (w : World) (h : JC w j c S T s) :
    Calls Try.prog 29 #[.pointer (some ⟨j, 0, none⟩), .bool waits] w fun e w' => e = .returned (.bool !s.their) ∧ JC w' j c S T (jHeard T waits s) ∧ Fr (two j c) w w' := by
  have hq : ∃ x, T.getD 7 0 = x := ⟨_, rfl⟩
  obtain ⟨x, hx⟩ := hq
  have hq : ∃ y, T.getD 6 0 = y := ⟨_, rfl⟩
  obtain ⟨y, hy⟩ := hq
  have HX := Lib.hid hx
  have HY := Lib.hid hy
  clear hx hy
  go_enter Try.func29, Try.ntmps29
  go_upto_if 7 with fail
  go_cut [7] from 8 to 18 (fun _ wx => JC wx j c S T (jWait T waits s) ∧ Fr (two j c) w wx)
  case first =>
    cases waits
    · go_wp2
      go_meet
      exact ⟨h, Fr.refl _ _⟩
    · have h13 := h.clock
      have ht := h.time 7 (by omega)
      rw [HX.out] at ht
      go_upto_region 4 with fail
      go_still_tail 10, (by kernel_rfl)
      go_wp2_with fail
      refine (start_any c _ _ _ _ (h.drew).ck).mono ?_
      rintro e w3 ⟨rfl, hC, hF⟩
      go_wp2
      go_meet
      exact ⟨by unfold jWait; rw [if_pos rfl, HX.out]; exact h.drew.clk hF hC, (Fr.refl _ _).drew.then_ hF.toTwo⟩
  case rest =>
    obtain ⟨h, hF0⟩ := hcut
    have h15 := h.their
    have h13 := h.clock
    have hf := h.frozen
    rw [jWait_their] at h15
    cases hth : s.their
    · rw [hth] at h15
      have hv : Hid (jHeard T waits s = { jWait T waits s with their := true, l := startL (jWait T waits s).l 6 y }) := by show jHeard _ _ _ = _; unfold jHeard; rw [hth, HY.out]; rfl
      have hth := Lib.hid hth
      go_upto_region 8 with fail
      have h2 := h.setTheir true
      have hF2 := hF0.setJ 15 (.bool true)
      have h13 := h2.clock
      have ht := h2.time 6 (by omega)
      rw [HY.out] at ht
      generalize wc.setCell ⟨j, 15, none⟩ (.bool true) = w2 at *
      go_still_tail 10, (by kernel_rfl)
      go_wp2_with fail
      refine (start_any c _ _ _ _ (h2.drew).ck).mono ?_
      rintro e w3 ⟨rfl, hC, hF⟩
      go_wp2
      go_ret
      exact ⟨ret_bool (by rw [hth.out]; rfl), by rw [hv.out]; exact h2.drew.clk hF hC, hF2.drew.then_ hF.toTwo⟩
    · rw [hth] at h15
      have hv : Hid (jHeard T waits s = jWait T waits s) := by show jHeard _ _ _ = _; unfold jHeard; rw [hth]; rfl
      have hth := Lib.hid hth
      go_wp2
      go_ret
      exact ⟨ret_bool (by rw [hth.out]; rfl), by rw [hv.out]; exact h, hF0⟩

def jAnswer (s : JS) : JS := if s.their = true then { s with their := false, l := stopL s.l [6] } else s
theorem janswer_any (j c : Nat) (S : List Value) (T : List Int) (s : JS) (w : World) (h : JC w j c S T s) :
    Calls Try.prog 36 #[.pointer (some ⟨j, 0, none⟩)] w fun e w' => e = .returned (.bool s.their) ∧ JC w' j c S T (jAnswer s) ∧ Fr (two j c) w w' := by
  have h15 := h.their
  have h13 := h.clock
  have hf := h.frozen
  obtain ⟨own, their, due, l⟩ := s
  cases their
  · go_enter Try.func36, Try.ntmps36
    go_wp2
    go_ret
    exact ⟨rfl, h, Fr.refl _ _⟩
  · have h2 := h.setTheir false
    have hF2 := (Fr.refl (two j c) w).setJ 15 (.bool false)
    go_enter Try.func36, Try.ntmps36
    go_wp2_with fail
    refine (stop1 c 6 _ _ _ h2.ck (by simp)).mono ?_
    rintro e w3 ⟨rfl, hC, hF⟩
    go_wp2
    go_ret
    exact ⟨rfl, h2.clk hF hC, hF2.then_ hF.toTwo⟩

def jClear (s : JS) : JS := { own := false, their := false, due := false, l := stopL s.l [5, 6] }
theorem jclear_any (j c : Nat) (S : List Value) (T : List Int) (s : JS) (w : World) (h : JC w j c S T s) :
    Calls Try.prog 35 #[.pointer (some ⟨j, 0, none⟩)] w fun e w' => e = .returned (.tuple #[]) ∧ JC w' j c S T (jClear s) ∧ Fr (two j c) w w' := by
  have h14 := h.own
  have h15 := h.their
  have h16 := h.due
  have h13 := h.clock
  have hf := h.frozen
  have h2 := ((h.setOwn false).setTheir false).setDue false
  have hF2 := (((Fr.refl (two j c) w).setJ 14 (.bool false)).setJ 15 (.bool false)).setJ 16 (.bool false)
  go_enter Try.func35, Try.ntmps35
  go_wp2_with fail
  refine (stop2 c 5 6 _ _ _ h2.ck (by simp)).mono ?_
  rintro e w3 ⟨rfl, hC, hF⟩
  go_wp2
  go_end0
  exact ⟨rfl, h2.clk hF hC, hF2.then_ hF.toTwo⟩

/-- A timer ran out: what is left then; why the link fails. -/
def jOut (T : List Int) (t : Int) (s : JS) : JS := if t = 5 ∧ s.own = true then { s with due := true, l := startL s.l 5 (T.getD 5 0) } else s
def jWhy (t : Int) (s : JS) : Int := if t = 6 ∧ s.their = true then 3 else 0

set_option maxHeartbeats 1000000 in
theorem jout_any (j c : Nat) (S : List Value) (T : List Int) (s : JS) (t : Int) (w : World) (h : JC w j c S T s) :
    Calls Try.prog 26 #[.pointer (some ⟨j, 0, none⟩), .int .i64 t] w fun e w' => e = .returned (.int .u8 (jWhy t s)) ∧ JC w' j c S T (jOut T t s) ∧ Fr (two j c) w w' := by
  have h14 := h.own
  have h15 := h.their
  have h16 := h.due
  have hf := h.frozen
  obtain ⟨own, their, due, l⟩ := s
  by_cases h5 : t = 5
  · subst h5
    cases own
    · go_enter Try.func26, Try.ntmps26
      go_wp2
      go_ret
      exact ⟨rfl, h, Fr.refl _ _⟩
    · obtain ⟨x, hx⟩ : ∃ x, T.getD 5 0 = x := ⟨_, rfl⟩
      have HX := Lib.hid hx
      clear hx
      have hv : Hid (jOut T 5 ⟨true, their, due, l⟩ = ⟨true, their, true, startL l 5 x⟩) := by show jOut _ _ _ = _; unfold jOut; rw [if_pos ⟨rfl, rfl⟩, HX.out]
      go_enter Try.func26, Try.ntmps26
      go_upto_region 6 with fail
      have h2 := h.setDue true
      have hF2 := (Fr.refl (two j c) w).setJ 16 (.bool true)
      have h13 := h2.clock
      have ht := h2.time 5 (by omega)
      rw [HX.out] at ht
      generalize w.setCell ⟨j, 16, none⟩ (.bool true) = w2 at *
      go_still_tail 10, (by kernel_rfl)
      go_wp2_with fail
      refine (start_any c _ _ _ _ (h2.drew).ck).mono ?_
      rintro e w3 ⟨rfl, hC, hF⟩
      go_wp2
      go_ret
      exact ⟨rfl, by rw [hv.out]; exact h2.drew.clk hF hC, hF2.drew.then_ hF.toTwo⟩
  · have e5 : (t == 5) = false := by simp [h5]
    have hv : Hid (jOut T t ⟨own, their, due, l⟩ = ⟨own, their, due, l⟩) := by show jOut _ _ _ = _; unfold jOut; rw [if_neg (by simp [h5])]
    by_cases h6 : t = 6
    · subst h6
      cases their
      all_goals
        go_enter Try.func26, Try.ntmps26
        go_wp2
        go_ret
        exact ⟨rfl, by rw [hv.out]; exact h, Fr.refl _ _⟩
    · have e6 : (t == 6) = false := by simp [h6]
      have hw : Hid (jWhy t ⟨own, their, due, l⟩ = 0) := by show jWhy _ _ = _; unfold jWhy; rw [if_neg (by simp [h6])]
      clear h5 h6
      go_enter Try.func26, Try.ntmps26
      go_wp2
      go_ret
      exact ⟨ret_int (by rw [hw.out]), by rw [hv.out]; exact h, Fr.refl _ _⟩
end Go.Proofs.Ytpalpoecakijnaa
