/-
  The contracts of align's functions, over an align and its clock, each a block of its own.
-/
import Derived.Test.YtpalpoecakijnaaJam
namespace Go.Proofs.Ytpalpoecakijnaa
open Go.RowKit
set_option linter.unusedVariables false
set_option linter.unusedSimpArgs false

/-- An align, its proof, and what its clock has left. -/
structure AS where
  st : Int
  own : Bool
  their : Bool
  ph : Bool
  pn : Int
  pt : Int
  l : List Int

def AS.tail (c : Nat) (s : AS) : List Value := [.pointer (some ⟨c, 0, none⟩), .int .u8 s.st, .bool s.own, .bool s.their, .bool s.ph, .int .i64 s.pn, .int .i64 s.pt]

/-- Block j is an align with the timers' times T and the clock in block c, and stands as s tells. -/
structure AC (w : World) (j c : Nat) (S : List Value) (T : List Int) (s : AS) : Prop where
  blk : Blk w j (S ++ (T.map (Value.int .i64) ++ s.tail c)) 55
  sl : S.length = 5
  tl : T.length = 8
  ck : Ck w c s.l
  ne : j ≠ c

section
variable {w w' : World} {j c : Nat} {S : List Value} {T : List Int} {s : AS}
theorem AC.time (h : AC w j c S T s) (i : Nat) (hi : i < 8) : w.cell? ⟨j, 5 + i, none⟩ = some (.int .i64 (T.getD i 0)) := by
  refine h.blk.cell (5 + i) ?_
  have h1 := h.sl
  have h2 := h.tl
  rw [List.getElem?_append_right (by omega), h1, Nat.add_sub_cancel_left, List.getElem?_append_left (by simp; omega), List.getElem?_map, List.getElem?_eq_getElem (by omega), List.getD_eq_getElem?_getD, List.getElem?_eq_getElem (by omega)]
  rfl
theorem AC.cell (h : AC w j c S T s) (i : Nat) {v : Value} (hi : (s.tail c)[i]? = some v) : w.cell? ⟨j, 13 + i, none⟩ = some v := by
  refine h.blk.cell (13 + i) ?_
  have h1 := h.sl
  have h2 := h.tl
  rw [List.getElem?_append_right (by omega), List.getElem?_append_right (by simp; omega), List.length_map, h1, h2, show 13 + i - 5 - 8 = i from by omega]
  exact hi
theorem AC.clock (h : AC w j c S T s) : w.cell? ⟨j, 13, none⟩ = some (.pointer (some ⟨c, 0, none⟩)) := h.cell 0 rfl
theorem AC.st (h : AC w j c S T s) : w.cell? ⟨j, 14, none⟩ = some (.int .u8 s.st) := h.cell 1 rfl
theorem AC.own (h : AC w j c S T s) : w.cell? ⟨j, 15, none⟩ = some (.bool s.own) := h.cell 2 rfl
theorem AC.their (h : AC w j c S T s) : w.cell? ⟨j, 16, none⟩ = some (.bool s.their) := h.cell 3 rfl
theorem AC.ph (h : AC w j c S T s) : w.cell? ⟨j, 17, none⟩ = some (.bool s.ph) := h.cell 4 rfl
theorem AC.pn (h : AC w j c S T s) : w.cell? ⟨j, 18, none⟩ = some (.int .i64 s.pn) := h.cell 5 rfl
theorem AC.pt (h : AC w j c S T s) : w.cell? ⟨j, 19, none⟩ = some (.int .i64 s.pt) := h.cell 6 rfl
theorem AC.frozen (h : AC w j c S T s) (i : Nat) : w.frozen? ⟨j, i, none⟩ = false := h.blk.frozen i
theorem AC.set (h : AC w j c S T s) (i : Nat) (v : Value) : Blk (w.setCell ⟨j, 13 + i, none⟩ v) j (S ++ (T.map (Value.int .i64) ++ (s.tail c).set i v)) 55 := by
  refine (h.blk.set (13 + i) v).as ?_
  have h1 := h.sl
  have h2 := h.tl
  rw [List.set_append_right _ _ (by omega), List.set_append_right _ _ (by simp; omega), List.length_map, h1, h2, show 13 + i - 5 - 8 = i from by omega]
theorem AC.nc (h : AC w j c S T s) : c ≠ j := fun e => h.ne e.symm
theorem AC.setSt (h : AC w j c S T s) (x : Int) : AC (w.setCell ⟨j, 14, none⟩ (.int .u8 x)) j c S T { s with st := x } := ⟨h.set 1 (.int .u8 x), h.sl, h.tl, h.ck.other h.nc _, h.ne⟩
theorem AC.setOwn (h : AC w j c S T s) (b : Bool) : AC (w.setCell ⟨j, 15, none⟩ (.bool b)) j c S T { s with own := b } := ⟨h.set 2 (.bool b), h.sl, h.tl, h.ck.other h.nc _, h.ne⟩
theorem AC.setTheir (h : AC w j c S T s) (b : Bool) : AC (w.setCell ⟨j, 16, none⟩ (.bool b)) j c S T { s with their := b } := ⟨h.set 3 (.bool b), h.sl, h.tl, h.ck.other h.nc _, h.ne⟩
theorem AC.setPh (h : AC w j c S T s) (b : Bool) : AC (w.setCell ⟨j, 17, none⟩ (.bool b)) j c S T { s with ph := b } := ⟨h.set 4 (.bool b), h.sl, h.tl, h.ck.other h.nc _, h.ne⟩
theorem AC.setPn (h : AC w j c S T s) (x : Int) : AC (w.setCell ⟨j, 18, none⟩ (.int .i64 x)) j c S T { s with pn := x } := ⟨h.set 5 (.int .i64 x), h.sl, h.tl, h.ck.other h.nc _, h.ne⟩
theorem AC.setPt (h : AC w j c S T s) (x : Int) : AC (w.setCell ⟨j, 19, none⟩ (.int .i64 x)) j c S T { s with pt := x } := ⟨h.set 6 (.int .i64 x), h.sl, h.tl, h.ck.other h.nc _, h.ne⟩
theorem AC.clk (h : AC w j c S T s) {l : List Int} (hF : Fr (· = c) w w') (hl : Ck w' c l) : AC w' j c S T { s with l := l } := ⟨h.blk.fr hF h.ne, h.sl, h.tl, hl, h.ne⟩
theorem AC.fr (h : AC w j c S T s) {X : Nat → Prop} (hF : Fr X w w') (h1 : ¬ X j) (h2 : ¬ X c) : AC w' j c S T s := ⟨h.blk.fr hF h1, h.sl, h.tl, h.ck.fr hF h2, h.ne⟩
theorem AC.alloc (h : AC w j c S T s) (o : Obj) : AC (w.alloc o) j c S T s := ⟨h.blk.alloc o, h.sl, h.tl, h.ck.alloc o, h.ne⟩
theorem AC.drew (h : AC w j c S T s) : AC w.drew j c S T s := ⟨h.blk, h.sl, h.tl, h.ck, h.ne⟩
theorem AC.drewN (h : AC w j c S T s) (n : Nat) : AC (w.drewN n) j c S T s := ⟨h.blk, h.sl, h.tl, h.ck, h.ne⟩
end

theorem stop3 (c : Nat) (x y z : Int) (b : Nat) (w : World) (l : List Int) (hC : Ck w c l) (hb : b = w.heap.size) :
    Calls Try.prog 27 #[.pointer (some ⟨c, 0, none⟩), .slice (some ⟨b, 0, none⟩) 3 3] (w.alloc (.cells #[.int .i64 x, .int .i64 y, .int .i64 z] 3)) fun e w' => e = .returned (.tuple #[]) ∧ Ck w' c (stopL l [x, y, z]) ∧ Fr (· = c) w w' := by
  subst hb
  refine (stop_any c w.heap.size 3 3 [x, y, z] _ l (hC.alloc _) rfl (by omega) (fun e => by have := hC.lt; omega) (fun j hj => (Blk.new w [.int .i64 x, .int .i64 y, .int .i64 z] 3).cell j (by
    rcases (by omega : j = 0 ∨ j = 1 ∨ j = 2) with rfl | rfl | rfl <;> rfl))).mono ?_
  rintro e w' ⟨rfl, hC', hF⟩
  exact ⟨rfl, hC', ((Fr.refl _ _).alloc _).then_ hF⟩
theorem stop4 (c : Nat) (x y z u : Int) (b : Nat) (w : World) (l : List Int) (hC : Ck w c l) (hb : b = w.heap.size) :
    Calls Try.prog 27 #[.pointer (some ⟨c, 0, none⟩), .slice (some ⟨b, 0, none⟩) 4 4] (w.alloc (.cells #[.int .i64 x, .int .i64 y, .int .i64 z, .int .i64 u] 3)) fun e w' => e = .returned (.tuple #[]) ∧ Ck w' c (stopL l [x, y, z, u]) ∧ Fr (· = c) w w' := by
  subst hb
  refine (stop_any c w.heap.size 4 4 [x, y, z, u] _ l (hC.alloc _) rfl (by omega) (fun e => by have := hC.lt; omega) (fun j hj => (Blk.new w [.int .i64 x, .int .i64 y, .int .i64 z, .int .i64 u] 3).cell j (by
    rcases (by omega : j = 0 ∨ j = 1 ∨ j = 2 ∨ j = 3) with rfl | rfl | rfl | rfl <;> rfl))).mono ?_
  rintro e w' ⟨rfl, hC', hF⟩
  exact ⟨rfl, hC', ((Fr.refl _ _).alloc _).then_ hF⟩

def aBegin (T : List Int) (s : AS) : AS := { s with st := 1, their := false, ph := false, pn := 0, pt := 0, l := startL (stopL s.l [0, 3, 4]) 2 (T.getD 2 0) }
def aEnd (s : AS) : AS := { s with st := 0, their := false, l := stopL s.l [0, 2, 3, 4] }
def aNear (T : List Int) (s : AS) : AS := { s with st := 2, l := startL (stopL s.l [0, 2, 4]) 3 (T.getD 3 0) }
def aProve (T : List Int) (s : AS) : AS :=
  { s with st := 3, ph := s.own || s.their, pn := 0, l := if (s.own || s.their) = true then startL (stopL s.l [0, 2, 3, 4]) 0 (T.getD 0 0) else startL (stopL s.l [0, 2, 3, 4]) 4 (T.getD 4 0) }

theorem ahurry_any (j c : Nat) (S : List Value) (T : List Int) (s : AS) (w : World) (h : AC w j c S T s) :
    Calls Try.prog 44 #[.pointer (some ⟨j, 0, none⟩)] w fun e w' => e = .returned (.bool (s.own || s.their)) ∧ w = w' := by
  have h15 := h.own
  have h16 := h.their
  obtain ⟨st, own, their, ph, pn, pt, l⟩ := s
  cases own
  · go_enter Try.func44, Try.ntmps44
    go_wp2
    go_ret
    exact ⟨rfl, rfl⟩
  · go_enter Try.func44, Try.ntmps44
    go_wp2
    go_ret
    exact ⟨rfl, rfl⟩

theorem ahurry_still (j c : Nat) (S : List Value) (T : List Int) (s : AS) (w : World) (h : AC w j c S T s) :
    Calls Try.prog 44 #[.pointer (some ⟨j, 0, none⟩)] w fun e w' => e = .returned (.bool (s.own || s.their)) ∧ w' = w :=
  (ahurry_any j c S T s w h).mono fun _ _ ⟨h1, h2⟩ => ⟨h1, h2.symm⟩

theorem aend_any (j c : Nat) (S : List Value) (T : List Int) (s : AS) (w : World) (h : AC w j c S T s) :
    Calls Try.prog 42 #[.pointer (some ⟨j, 0, none⟩)] w fun e w' => e = .returned (.tuple #[]) ∧ AC w' j c S T (aEnd s) ∧ Fr (two j c) w w' := by
  have h14 := h.st
  have h16 := h.their
  have h13 := h.clock
  have hf := h.frozen
  have h2 := (h.setSt 0).setTheir false
  have hF2 := ((Fr.refl (two j c) w).setJ 14 (.int .u8 0)).setJ 16 (.bool false)
  go_enter Try.func42, Try.ntmps42
  go_wp2_with fail
  refine (stop4 c 0 2 3 4 _ _ _ h2.ck (by simp)).mono ?_
  rintro e w3 ⟨rfl, hC, hF⟩
  go_wp2
  go_end0
  exact ⟨rfl, h2.clk hF hC, hF2.then_ hF.toTwo⟩

theorem anear_any (j c : Nat) (S : List Value) (T : List Int) (s : AS) (w : World) (h : AC w j c S T s) :
    Calls Try.prog 45 #[.pointer (some ⟨j, 0, none⟩)] w fun e w' => e = .returned (.tuple #[]) ∧ AC w' j c S T (aNear T s) ∧ Fr (two j c) w w' := by
  have h14 := h.st
  have h13 := h.clock
  have hf := h.frozen
  have h2 := h.setSt 2
  have hF2 := (Fr.refl (two j c) w).setJ 14 (.int .u8 2)
  obtain ⟨x, hx⟩ : ∃ x, T.getD 3 0 = x := ⟨_, rfl⟩
  have HX := Lib.hid hx
  clear hx
  have hv : Hid (aNear T s = { s with st := 2, l := startL (stopL s.l [0, 2, 4]) 3 x }) := by show aNear T s = _; unfold aNear; rw [HX.out]
  go_enter Try.func45, Try.ntmps45
  go_wp2_with fail
  refine (stop3 c 0 2 4 _ _ _ h2.ck (by simp)).mono ?_
  rintro e w3 ⟨rfl, hC, hF⟩
  have h3 := h2.clk hF hC
  have hF3 := hF2.then_ hF.toTwo
  clear hC hF h2 hF2
  have h13 := h3.clock
  have ht := h3.time 3 (by omega)
  rw [HX.out] at ht
  go_upto_region 2 with fail
  go_still_tail 10, (by kernel_rfl)
  go_wp2_with fail
  refine (start_any c _ _ _ _ (h3.drew).ck).mono ?_
  rintro e w4 ⟨rfl, hC, hF⟩
  go_wp2
  go_end0
  exact ⟨rfl, by rw [hv.out]; exact h3.drew.clk hF hC, hF3.drew.then_ hF.toTwo⟩

theorem abegin_any (j c : Nat) (S : List Value) (T : List Int) (s : AS) (w : World) (h : AC w j c S T s) :
    Calls Try.prog 32 #[.pointer (some ⟨j, 0, none⟩)] w fun e w' => e = .returned (.tuple #[]) ∧ AC w' j c S T (aBegin T s) ∧ Fr (two j c) w w' := by
  have h14 := h.st
  have h16 := h.their
  have h17 := h.ph
  have h18 := h.pn
  have h19 := h.pt
  have h13 := h.clock
  have hf := h.frozen
  have h2 := ((((h.setSt 1).setTheir false).setPh false).setPn 0).setPt 0
  have hF2 := (((((Fr.refl (two j c) w).setJ 14 (.int .u8 1)).setJ 16 (.bool false)).setJ 17 (.bool false)).setJ 18 (.int .i64 0)).setJ 19 (.int .i64 0)
  obtain ⟨x, hx⟩ : ∃ x, T.getD 2 0 = x := ⟨_, rfl⟩
  have HX := Lib.hid hx
  clear hx
  have hv : Hid (aBegin T s = { s with st := 1, their := false, ph := false, pn := 0, pt := 0, l := startL (stopL s.l [0, 3, 4]) 2 x }) := by show aBegin T s = _; unfold aBegin; rw [HX.out]
  go_enter Try.func32, Try.ntmps32
  go_wp2_with fail
  refine (stop3 c 0 3 4 _ _ _ h2.ck (by simp)).mono ?_
  rintro e w3 ⟨rfl, hC, hF⟩
  have h3 := h2.clk hF hC
  have hF3 := hF2.then_ hF.toTwo
  clear hC hF h2 hF2
  have h13 := h3.clock
  have ht := h3.time 2 (by omega)
  rw [HX.out] at ht
  go_upto_region 3 with fail
  go_still_tail 10, (by kernel_rfl)
  go_wp2_with fail
  refine (start_any c _ _ _ _ (h3.drew).ck).mono ?_
  rintro e w4 ⟨rfl, hC, hF⟩
  go_wp2
  go_end0
  exact ⟨rfl, by rw [hv.out]; exact h3.drew.clk hF hC, hF3.drew.then_ hF.toTwo⟩

set_option maxHeartbeats 1000000 in
theorem aprove_any (j c : Nat) (S : List Value) (T : List Int) (s : AS) (w : World) (h : AC w j c S T s) :
    Calls Try.prog 46 #[.pointer (some ⟨j, 0, none⟩)] w fun e w' => e = .returned (.tuple #[]) ∧ AC w' j c S T (aProve T s) ∧ Fr (two j c) w w' := by
  have h14 := h.st
  have hf := h.frozen
  go_enter Try.func46, Try.ntmps46
  go_upto_region 1 with fail
  have h2 := h.setSt 3
  have hF2 := (Fr.refl (two j c) w).setJ 14 (.int .u8 3)
  generalize w.setCell ⟨j, 14, none⟩ (.int .u8 3) = w2 at *
  clear h14 hf
  have h17 := h2.ph
  have h18 := h2.pn
  have h19 := h2.pt
  have hf := h2.frozen
  go_still_tail 11, (by kernel_rfl)
  still_call (ahurry_still j c S T _ _ h2.drew)
  repeat still_step
  refine wpStill_nil ?_
  go_upto_region 2 with fail
  have h3 := (((h2.setPh (s.own || s.their)).setPn 0).setPt s.pt).drew
  have hF3 := (((hF2.setJ 17 (.bool (s.own || s.their))).setJ 18 (.int .i64 0)).setJ 19 (.int .i64 s.pt)).drew
  generalize (((w2.setCell ⟨j, 17, none⟩ (.bool (s.own || s.their))).setCell ⟨j, 18, none⟩ (.int .i64 0)).setCell ⟨j, 19, none⟩ (.int .i64 s.pt)).drew = w3 at *
  clear h17 h18 h19 hf hF2 h2
  have h13 := h3.clock
  go_wp2_with fail
  refine (stop4 c 0 2 3 4 _ _ _ h3.ck rfl).mono ?_
  rintro e w4 ⟨rfl, hC, hF⟩
  have h4 := h3.clk hF hC
  have hF4 := hF3.then_ hF.toTwo
  clear hC hF h3 hF3
  go_wp2_with fail
  refine (ahurry_any j c S T _ _ h4).mono ?_
  rintro e w5 ⟨rfl, rfl⟩
  have h13 := h4.clock
  cases hu : (s.own || s.their)
  · obtain ⟨x, hx⟩ : ∃ x, T.getD 4 0 = x := ⟨_, rfl⟩
    have HX := Lib.hid hx
    clear hx
    have ht := h4.time 4 (by omega)
    rw [HX.out] at ht
    have hv : Hid (aProve T s = { s with st := 3, ph := s.own || s.their, pn := 0, l := startL (stopL s.l [0, 2, 3, 4]) 4 x }) := by show aProve T s = _; unfold aProve; rw [hu, HX.out]; rfl
    go_upto_region 5 with fail
    go_still_tail 10, (by kernel_rfl)
    go_wp2_with fail
    refine (start_any c _ _ _ _ (h4.drew).ck).mono ?_
    rintro e w6 ⟨rfl, hC, hF⟩
    go_wp2
    go_end0
    exact ⟨rfl, by rw [hv.out]; exact h4.drew.clk hF hC, hF4.drew.then_ hF.toTwo⟩
  · obtain ⟨x, hx⟩ : ∃ x, T.getD 0 0 = x := ⟨_, rfl⟩
    have HX := Lib.hid hx
    clear hx
    have ht := h4.time 0 (by omega)
    rw [HX.out] at ht
    have hv : Hid (aProve T s = { s with st := 3, ph := s.own || s.their, pn := 0, l := startL (stopL s.l [0, 2, 3, 4]) 0 x }) := by show aProve T s = _; unfold aProve; rw [hu, HX.out]; rfl
    go_upto_region 4 with fail
    go_still_tail 10, (by kernel_rfl)
    go_wp2_with fail
    refine (start_any c _ _ _ _ (h4.drew).ck).mono ?_
    rintro e w6 ⟨rfl, hC, hF⟩
    go_wp2
    go_end0
    exact ⟨rfl, by rw [hv.out]; exact h4.drew.clk hF hC, hF4.drew.then_ hF.toTwo⟩

/-- One more unit while it is proved: the proof then, was it given up, too often? -/
def pMost (ph : Bool) : Int := if ph = true then 1 else 4
def pN (pn : Int) (wrong : Bool) : Int := if wrong = true then pn + 1 else pn
def pAnew (ph : Bool) (pn : Int) (wrong : Bool) : Bool := !decide (pN pn wrong < pMost ph)

theorem most_any (ph : Bool) (pn pt : Int) (w : World) : Calls Try.prog 48 #[.agg #[.bool ph, .int .i64 pn, .int .i64 pt]] w fun e w' => e = .returned (.int .i64 (pMost ph)) ∧ Below w.heap.size w w' := by
  cases ph
  all_goals
    go_enter Try.func48, Try.ntmps48
    go_wp2
    go_ret
    exact ⟨rfl, (Below.refl _ _).alloc (Nat.le_refl _) _⟩

set_option maxHeartbeats 2000000 in
theorem punit_any (ph : Bool) (pn pt : Int) (wrong : Bool) (w : World) (h1 : 0 ≤ pn ∧ pn ≤ 1000000) (h2 : 0 ≤ pt ∧ pt ≤ 1000000) :
    Calls Try.prog 47 #[.agg #[.bool ph, .int .i64 pn, .int .i64 pt], .bool wrong] w fun e w' =>
      e = .returned (if pAnew ph pn wrong = true then .tuple #[.agg #[.bool ph, .int .i64 0, .int .i64 (pt + 1)], .bool true, .bool (decide (5 ≤ pt + 1))] else .tuple #[.agg #[.bool ph, .int .i64 (pN pn wrong), .int .i64 pt], .bool false, .bool false]) ∧ Below w.heap.size w w' := by
  have hx : ∃ x, pN pn wrong = x ∧ 0 ≤ x ∧ x ≤ 1000001 := ⟨_, rfl, by unfold pN; split <;> omega⟩
  obtain ⟨x, hx, hx0⟩ := hx
  have hu : ∃ u, pAnew ph pn wrong = u ∧ (decide (x < pMost ph)) = !u := ⟨_, rfl, by unfold pAnew; rw [hx]; simp⟩
  obtain ⟨u, hu, hd⟩ := hu
  rw [hx, hu]
  go_enter Try.func47, Try.ntmps47
  go_upto_if 7 with fail
  go_cut [7] from 8 to 11 (fun _ wx => wx = (w.alloc (.cells #[.bool ph, .int .i64 x, .int .i64 pt] 53)).alloc (.cells #[.bool false, .int .i64 0, .int .i64 0] 53))
  case first =>
    cases wrong
    · have hx := Lib.hid hx
      go_wp2
      go_meet
      have : pn = x := hx.out
      rw [this]
    · have hx := Lib.hid hx
      go_wp2
      go_meet
      have : pn + 1 = x := hx.out
      rw [this]
  case rest =>
    subst hcut
    clear hx hu
    go_upto_region 3 with fail
    go_cut [16] from 12 to 15 (fun q wx => q = .bool (!u) ∧ Blk wx w.heap.size [.bool ph, .int .i64 x, .int .i64 pt] 53 ∧ Blk wx (w.heap.size + 1) [.bool false, .int .i64 0, .int .i64 0] 53 ∧ Below w.heap.size w wx)
    case first =>
      have b1 := (Blk.new w [.bool ph, .int .i64 x, .int .i64 pt] 53).alloc (.cells #[.bool false, .int .i64 0, .int .i64 0] 53)
      have b2 := Blk.new (w.alloc (.cells #[.bool ph, .int .i64 x, .int .i64 pt] 53)) [.bool false, .int .i64 0, .int .i64 0] 53
      rw [World.size_alloc] at b2
      have hB := ((Below.refl w.heap.size w).alloc (Nat.le_refl _) (.cells #[.bool ph, .int .i64 x, .int .i64 pt] 53)).alloc (by simp) (.cells #[.bool false, .int .i64 0, .int .i64 0] 53)
      have hd := Lib.hid hd
      generalize (w.alloc (.cells #[.bool ph, .int .i64 x, .int .i64 pt] 53)).alloc (.cells #[.bool false, .int .i64 0, .int .i64 0] 53) = w2 at *
      have c0 := b1.cell 0 rfl
      have c1 := b1.cell 1 rfl
      have c2 := b1.cell 2 rfl
      have hlt := b1.lt
      go_region_with ((go_at_call 48; refine (most_any _ _ _ _).mono ?_; rintro e w' ⟨rfl, hb⟩; have k1 := b1.drew.below hb; have k2 := b2.drew.below hb; have kB := hB.drew.trans (hb.mono (by have := hB.size; simpa using this)); have d1 := k1.cell 1 rfl; clear hb))
      all_goals
        go_wp2_with fail
        go_meet
        exact ⟨rfl, k1, k2, kB⟩
    case rest =>
      obtain ⟨rfl, hK1, hK2, hB⟩ := hcut
      obtain ⟨c0, c1, c2⟩ := (⟨hK1.cell 0 rfl, hK1.cell 1 rfl, hK1.cell 2 rfl⟩ : _ ∧ _ ∧ _)
      obtain ⟨e0, e1, e2⟩ := (⟨hK2.cell 0 rfl, hK2.cell 1 rfl, hK2.cell 2 rfl⟩ : _ ∧ _ ∧ _)
      have f1 := hK1.frozen
      have f2 := hK2.frozen
      cases u
      · go_wp2
        refine bodyPost_ret (v := .tuple #[.agg #[.bool ph, .int .i64 x, .int .i64 pt], .bool false, .bool false]) (by simp [results, Try.results47, go_sem, c0, c1, c2, e0, e1, e2]) rfl ⟨rfl, ?_⟩
        exact ((hB.setCell (p := ⟨w.heap.size + 1, 0, none⟩) (by simp) _).setCell (p := ⟨w.heap.size + 1, 1, none⟩) (by simp) _).setCell (p := ⟨w.heap.size + 1, 2, none⟩) (by simp) _
      · go_upto_region 6 with fail
        have hL1 := (hK1.set 1 (.int .i64 0)).set 2 (.int .i64 (pt + 1))
        have hL2 := (hK2.other (a := ⟨w.heap.size, 1, none⟩) (by simp) (.int .i64 0)).other (a := ⟨w.heap.size, 2, none⟩) (by simp) (.int .i64 (pt + 1))
        have hB2 := (hB.setCell (p := ⟨w.heap.size, 1, none⟩) (Nat.le_refl _) (.int .i64 0)).setCell (p := ⟨w.heap.size, 2, none⟩) (Nat.le_refl _) (.int .i64 (pt + 1))
        simp only [List.set_cons_succ, List.set_cons_zero] at hL1
        generalize (wc.setCell ⟨w.heap.size, 1, none⟩ (.int .i64 0)).setCell ⟨w.heap.size, 2, none⟩ (.int .i64 (pt + 1)) = w4 at *
        clear c0 c1 c2 e0 e1 e2 f1 f2 hK1 hK2 hB
        obtain ⟨c0, c1, c2⟩ := (⟨hL1.cell 0 rfl, hL1.cell 1 rfl, hL1.cell 2 rfl⟩ : _ ∧ _ ∧ _)
        obtain ⟨e0, e1, e2⟩ := (⟨hL2.cell 0 rfl, hL2.cell 1 rfl, hL2.cell 2 rfl⟩ : _ ∧ _ ∧ _)
        have f1 := hL1.frozen
        have f2 := hL2.frozen
        go_region
        have hM := (((hL2.set 0 (.bool ph)).set 1 (.int .i64 0)).set 2 (.int .i64 (pt + 1))).drew
        have hB3 := (((hB2.setCell (p := ⟨w.heap.size + 1, 0, none⟩) (by simp) (.bool ph)).setCell (p := ⟨w.heap.size + 1, 1, none⟩) (by simp) (.int .i64 0)).setCell (p := ⟨w.heap.size + 1, 2, none⟩) (by simp) (.int .i64 (pt + 1))).drew
        simp only [List.set_cons_succ, List.set_cons_zero] at hM
        generalize (((w4.setCell ⟨w.heap.size + 1, 0, none⟩ (.bool ph)).setCell ⟨w.heap.size + 1, 1, none⟩ (.int .i64 0)).setCell ⟨w.heap.size + 1, 2, none⟩ (.int .i64 (pt + 1))).drew = w5 at *
        obtain ⟨g0, g1, g2⟩ := (⟨hM.cell 0 rfl, hM.cell 1 rfl, hM.cell 2 rfl⟩ : _ ∧ _ ∧ _)
        go_wp2
        exact bodyPost_ret (v := .tuple #[.agg #[.bool ph, .int .i64 0, .int .i64 (pt + 1)], .bool true, .bool (decide (5 ≤ pt + 1))]) (by simp [results, Try.results47, go_sem, g0, g1, g2]) rfl ⟨rfl, hB3⟩

end Go.Proofs.Ytpalpoecakijnaa
