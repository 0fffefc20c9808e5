/-
  WayMost: the example of layer 13 (what New of a setup is), and the window of a setup.
-/
import Derived.Test.YtadheikcgdhcdaaBase
import Derived.Test.YtadheikcgdhcdaaRows
namespace Go.Proofs.Ytadheikcgdhcdaa
open Go.RowKit
set_option linter.unusedVariables false
set_option linter.unusedSimpArgs false

theorem usual_any (c : Bool) (w : World) : Calls Try.prog 63 #[.bool c] w fun e w' => e = .returned (.agg #[.bool c, .int .i64 8, .int .i64 300, .int .i64 16, .int .i64 600, .int .i64 600, .int .i64 12000, .int .i64 8000, .int .i64 4000, .int .i64 1200, .int .i64 100, .int .i64 4000, .int .i64 6000]) ∧ Below w.heap.size w w' := by
  go_enter Try.func63, Try.ntmps63
  go_wp2
  refine bodyPost_ret (v := .agg #[.bool c, .int .i64 8, .int .i64 300, .int .i64 16, .int .i64 600, .int .i64 600, .int .i64 12000, .int .i64 8000, .int .i64 4000, .int .i64 1200, .int .i64 100, .int .i64 4000, .int .i64 6000]) ?_ rfl ?_
  · simp [results, Try.results63, go_sem]
  · exact ⟨rfl, (Below.refl _ _).alloc (Nat.le_refl _) _⟩

theorem hnew_any (m o : Int) (w : World) : Calls Try.prog 20 #[.int .i64 m, .int .i64 o] w fun e w' => e = .returned (.pointer (some ⟨w.heap.size, 0, none⟩)) ∧ Below w.heap.size w w' := by
  go_enter Try.func20, Try.ntmps20
  go_wp2
  go_ret
  exact ⟨rfl, (Below.refl _ _).alloc (Nat.le_refl _) _⟩

theorem bnew_any (m o : Int) (w : World) : Calls Try.prog 37 #[.int .i64 m, .int .i64 o] w fun e w' => ∃ b, e = .returned (.pointer (some ⟨b, 0, none⟩)) ∧ Below w.heap.size w w' := by
  go_enter Try.func37, Try.ntmps37
  go_wp2_with fail
  refine (hnew_any _ _ _).mono ?_
  rintro e w1 ⟨rfl, hb⟩
  have hs := hb.size
  go_wp2
  go_ret
  exact ⟨_, rfl, hb.alloc hs _⟩

theorem cnew_any (m o n1 n2 : Int) (w : World) : Calls Try.prog 46 #[.int .i64 m, .int .i64 o, .int .i64 n1, .int .i64 n2] w fun e w' => ∃ b, e = .returned (.pointer (some ⟨b, 0, none⟩)) ∧ Below w.heap.size w w' := by
  go_enter Try.func46, Try.ntmps46
  go_wp2_with fail
  refine (hnew_any _ _ _).mono ?_
  rintro e w1 ⟨rfl, hb⟩
  have hs := hb.size
  go_wp2
  all_goals (go_ret; exact ⟨⟨_, rfl⟩, hb.alloc hs _⟩)

theorem wnew_any (cy : Bool) (n1 n2 ho oc t0 t1 t2 t3 t4 t5 t6 t7 : Int) (w : World) : Calls Try.prog 62 #[.agg #[.bool cy, .int .i64 n1, .int .i64 n2, .int .i64 ho, .int .i64 oc, .int .i64 t0, .int .i64 t1, .int .i64 t2, .int .i64 t3, .int .i64 t4, .int .i64 t5, .int .i64 t6, .int .i64 t7]] w fun e w' => ∃ b, e = .returned (.iface (if cy = true then 75 else 64) (.pointer (some ⟨b, 0, none⟩))) ∧ Below w.heap.size w w' := by
  cases cy
  · go_enter Try.func62, Try.ntmps62
    go_wp2_with fail
    refine (bnew_any _ _ _).mono ?_
    rintro e w1 ⟨b, rfl, hb⟩
    have hs := hb.size
    simp only [World.size_alloc] at hs hb
    go_wp2
    go_ret
    exact ⟨⟨_, rfl⟩, ((Below.refl _ _).alloc (Nat.le_refl _) _).trans (hb.mono (by omega))⟩
  · go_enter Try.func62, Try.ntmps62
    go_wp2_with fail
    refine (cnew_any _ _ _ _ _).mono ?_
    rintro e w1 ⟨b, rfl, hb⟩
    have hs := hb.size
    simp only [World.size_alloc] at hs hb
    go_wp2
    go_ret
    exact ⟨⟨_, rfl⟩, ((Below.refl _ _).alloc (Nat.le_refl _) _).trans (hb.mono (by omega))⟩

/-- 'x, ok := e.(T)', T a pointer type: e's dynamic type is another; is T. -/
theorem assert_other {t xT asserted e : TypeId} {v z : Value} (hu : Try.prog.underlying asserted = some (.pointer e)) (hz : (Try.prog.info? asserted).map (·.zero) = some (some z)) (hne : t ≠ asserted) (w : World) :
    (Instr.typeAssert (.iface t v) xT asserted true).run Try.prog w = .ok (.tuple #[z, .bool false]) w := by
  obtain ⟨j, hj, hz'⟩ := Option.map_eq_some_iff.1 hz
  simp [Instr.typeAssert, run_underlying hu, hne, zeroValue, typeInfo, hj, hz', go_sem, Result.andThen]
theorem assert_same {t xT e : TypeId} {v : Value} (hu : Try.prog.underlying t = some (.pointer e)) (w : World) :
    (Instr.typeAssert (.iface t v) xT t true).run Try.prog w = .ok (.tuple #[v, .bool true]) w := by
  simp [Instr.typeAssert, run_underlying hu, go_sem, Result.andThen]
theorem a1 (v : Value) (w : World) : (Instr.typeAssert (.iface 75 v) 94 64 true).run Try.prog w = .ok (.tuple #[.pointer none, .bool false]) w := assert_other (z := .pointer none) Try.underlying64 (by kernel_rfl) (by decide) w
theorem a2 (v : Value) (w : World) : (Instr.typeAssert (.iface 75 v) 94 75 true).run Try.prog w = .ok (.tuple #[v, .bool true]) w := assert_same Try.underlying75 w
theorem a3 (v : Value) (w : World) : (Instr.typeAssert (.iface 64 v) 94 64 true).run Try.prog w = .ok (.tuple #[v, .bool true]) w := assert_same Try.underlying64 w
theorem a4 (v : Value) (w : World) : (Instr.typeAssert (.iface 64 v) 94 75 true).run Try.prog w = .ok (.tuple #[.pointer none, .bool false]) w := assert_other (z := .pointer none) Try.underlying75 (by kernel_rfl) (by decide) w

theorem name_cyclic (b : Nat) (w : World) : Calls Try.prog 65 #[.iface 75 (.pointer (some ⟨b, 0, none⟩))] w fun e w' => e = .returned (.string ⟨#[99, 121, 99, 108, 105, 99]⟩) ∧ w = w' := by
  have e1 := a1 (.pointer (some ⟨b, 0, none⟩)) w
  have e2 := a2 (.pointer (some ⟨b, 0, none⟩)) w
  go_enter Try.func65, Try.ntmps65
  go_wp2
  go_ret
  exact ⟨rfl, rfl⟩
theorem name_basic (b : Nat) (w : World) : Calls Try.prog 65 #[.iface 64 (.pointer (some ⟨b, 0, none⟩))] w fun e w' => e = .returned (.string ⟨#[98, 97, 115, 105, 99]⟩) ∧ w = w' := by
  have e1 := a3 (.pointer (some ⟨b, 0, none⟩)) w
  go_enter Try.func65, Try.ntmps65
  go_wp2
  go_ret
  exact ⟨rfl, rfl⟩
theorem cyclic_cyclic (b : Nat) (w : World) : Calls Try.prog 66 #[.iface 75 (.pointer (some ⟨b, 0, none⟩))] w fun e w' => e = .returned (.bool true) ∧ w = w' := by
  have e2 := a2 (.pointer (some ⟨b, 0, none⟩)) w
  go_enter Try.func66, Try.ntmps66
  go_wp2
  go_ret
  exact ⟨rfl, rfl⟩
theorem cyclic_basic (b : Nat) (w : World) : Calls Try.prog 66 #[.iface 64 (.pointer (some ⟨b, 0, none⟩))] w fun e w' => e = .returned (.bool false) ∧ w = w' := by
  have e2 := a4 (.pointer (some ⟨b, 0, none⟩)) w
  go_enter Try.func66, Try.ntmps66
  go_wp2
  go_ret
  exact ⟨rfl, rfl⟩

theorem awake13_any (w : World) : Calls Try.prog 18 #[] w fun e w' => e = .returned (.bool true) ∧ Below w.heap.size w w' := by
  go_enter Try.func18, Try.ntmps18
  go_wp2_with fail
  refine (usual_any _ _).mono ?_
  rintro e w1 ⟨rfl, hB⟩
  go_wp2_with fail
  refine (wnew_any _ _ _ _ _ _ _ _ _ _ _ _ _ _).mono ?_
  rintro e w2 ⟨b, rfl, hb⟩
  replace hB := bthen hB hb
  rw [if_pos rfl]
  clear hb
  go_wp2_with fail
  refine (usual_any _ _).mono ?_
  rintro e w3 ⟨rfl, hb⟩
  replace hB := bthen hB hb
  clear hb
  go_wp2_with fail
  refine (wnew_any _ _ _ _ _ _ _ _ _ _ _ _ _ _).mono ?_
  rintro e w4 ⟨b', rfl, hb⟩
  replace hB := bthen hB hb
  rw [if_neg (by decide)]
  clear hb
  go_wp2_with fail
  refine (name_cyclic _ _).mono ?_
  rintro e w' ⟨rfl, rfl⟩
  go_wp2_with fail
  refine (name_basic _ _).mono ?_
  rintro e w' ⟨rfl, rfl⟩
  go_wp2_with fail
  refine (cyclic_cyclic _ _).mono ?_
  rintro e w' ⟨rfl, rfl⟩
  go_wp2_with fail
  refine (cyclic_basic _ _).mono ?_
  rintro e w' ⟨rfl, rfl⟩
  go_wp2
  go_ret
  exact ⟨rfl, hB⟩

def mostA (cy : Bool) (n1 ho : Int) : Int := if cy = true then (if n1 < ho then n1 else ho) else (if 127 < ho then 127 else ho)
def mostB (cy : Bool) (n2 oc : Int) : Int := if cy = true then (if n2 < oc then n2 else oc) else oc
theorem ret_two {k l : IntKind} {a b c d : Int} (h : a = b) (h' : c = d) : Ending.returned (.tuple #[.int k a, .int l c]) = .returned (.tuple #[.int k b, .int l d]) := by rw [h, h']

theorem most_any (cy : Bool) (n1 n2 ho oc t0 t1 t2 t3 t4 t5 t6 t7 : Int) (w : World) : Calls Try.prog 17 #[.agg #[.bool cy, .int .i64 n1, .int .i64 n2, .int .i64 ho, .int .i64 oc, .int .i64 t0, .int .i64 t1, .int .i64 t2, .int .i64 t3, .int .i64 t4, .int .i64 t5, .int .i64 t6, .int .i64 t7]] w fun e w' => e = .returned (.tuple #[.int .i64 (mostA cy n1 ho), .int .i64 (mostB cy n2 oc)]) ∧ Below w.heap.size w w' := by
  cases cy
  · go_enter Try.func17, Try.ntmps17
    go_upto_region 3 with fail
    go_region
    all_goals try go_wp2
    all_goals (refine bodyPost_ret (results_tmp2 rfl _ _ _) rfl ⟨?_, below_drewN ((Below.refl _ _).alloc (Nat.le_refl _) _) 1⟩)
    all_goals try simp
    all_goals (try simp only [mostA, mostB, Bool.false_eq_true, if_false, if_true, and_true]; first | (refine ⟨?_, ?_⟩ <;> (repeat' split) <;> omega) | ((repeat' split) <;> omega) | (refine ⟨?_, rfl⟩; (repeat' split) <;> omega))
  · go_enter Try.func17, Try.ntmps17
    go_upto_region 3 with fail
    go_region
    all_goals try go_wp2
    all_goals (refine bodyPost_ret (results_tmp2 rfl _ _ _) rfl ⟨?_, below_drewN ((Below.refl _ _).alloc (Nat.le_refl _) _) 1⟩)
    all_goals try simp
    all_goals (try simp only [mostA, mostB, Bool.false_eq_true, if_false, if_true, and_true]; first | (refine ⟨?_, ?_⟩ <;> (repeat' split) <;> omega) | ((repeat' split) <;> omega) | (refine ⟨?_, rfl⟩; (repeat' split) <;> omega))

theorem wayMost_row (cy : Bool) (n1 n2 ho oc t0 t1 t2 t3 t4 t5 t6 t7 : Int) (w : World) : Calls Try.prog 3 #[.agg #[.bool cy, .int .i64 n1, .int .i64 n2, .int .i64 ho, .int .i64 oc, .int .i64 t0, .int .i64 t1, .int .i64 t2, .int .i64 t3, .int .i64 t4, .int .i64 t5, .int .i64 t6, .int .i64 t7]] w fun e w' => e = .returned (.bool true) ∧ Below w.heap.size w w' := by
  cases cy
  · have hb : mostB false n2 oc = oc := by simp [mostB]
    by_cases h : 127 < ho
    · have ha : mostA false n1 ho = 127 := by simp [mostA, h]
      have d1 : decide (127 < ho) = true := by simp [h]
      go_enter Try.func3, Try.ntmps3
      go_wp2_with fail
      have hK := Blk.new w [.bool false, .int .i64 n1, .int .i64 n2, .int .i64 ho, .int .i64 oc, .int .i64 t0, .int .i64 t1, .int .i64 t2, .int .i64 t3, .int .i64 t4, .int .i64 t5, .int .i64 t6, .int .i64 t7] 24
      refine (most_any _ _ _ _ _ _ _ _ _ _ _ _ _ _).mono ?_
      rintro e w1 ⟨rfl, hB⟩
      replace hK := hK.below hB
      have hB' : Below w.heap.size w w1 := ((Below.refl _ _).alloc (Nat.le_refl _) _).trans (hB.mono (by simp))
      have c0 := hK.cell 0 rfl
      have c1 := hK.cell 1 rfl
      have c2 := hK.cell 2 rfl
      have c3 := hK.cell 3 rfl
      have c4 := hK.cell 4 rfl
      clear hK hB
      rw [ha, hb]
      go_wp2_with (go_at_call 18; refine (awake13_any _).mono ?_; rintro e w2 ⟨rfl, hB2⟩; replace hB' := bthen hB' hB2; clear hB2)
      all_goals (go_ret; exact ⟨by rfl, hB'⟩)
    · have ha : mostA false n1 ho = ho := by simp [mostA, h]
      have d1 : decide (127 < ho) = false := by simp [h]
      go_enter Try.func3, Try.ntmps3
      go_wp2_with fail
      have hK := Blk.new w [.bool false, .int .i64 n1, .int .i64 n2, .int .i64 ho, .int .i64 oc, .int .i64 t0, .int .i64 t1, .int .i64 t2, .int .i64 t3, .int .i64 t4, .int .i64 t5, .int .i64 t6, .int .i64 t7] 24
      refine (most_any _ _ _ _ _ _ _ _ _ _ _ _ _ _).mono ?_
      rintro e w1 ⟨rfl, hB⟩
      replace hK := hK.below hB
      have hB' : Below w.heap.size w w1 := ((Below.refl _ _).alloc (Nat.le_refl _) _).trans (hB.mono (by simp))
      have c0 := hK.cell 0 rfl
      have c1 := hK.cell 1 rfl
      have c2 := hK.cell 2 rfl
      have c3 := hK.cell 3 rfl
      have c4 := hK.cell 4 rfl
      clear hK hB
      rw [ha, hb]
      go_wp2_with (go_at_call 18; refine (awake13_any _).mono ?_; rintro e w2 ⟨rfl, hB2⟩; replace hB' := bthen hB' hB2; clear hB2)
      all_goals (go_ret; exact ⟨by rfl, hB'⟩)
  · by_cases h : n1 < ho <;> by_cases h2 : n2 < oc
    · have ha : mostA true n1 ho = n1 := by simp [mostA, h]
      have hb : mostB true n2 oc = n2 := by simp [mostB, h2]
      have d1 : decide (n1 < ho) = true := by simp [h]
      have d2 : decide (n2 < oc) = true := by simp [h2]
      go_enter Try.func3, Try.ntmps3
      go_wp2_with fail
      have hK := Blk.new w [.bool true, .int .i64 n1, .int .i64 n2, .int .i64 ho, .int .i64 oc, .int .i64 t0, .int .i64 t1, .int .i64 t2, .int .i64 t3, .int .i64 t4, .int .i64 t5, .int .i64 t6, .int .i64 t7] 24
      refine (most_any _ _ _ _ _ _ _ _ _ _ _ _ _ _).mono ?_
      rintro e w1 ⟨rfl, hB⟩
      replace hK := hK.below hB
      have hB' : Below w.heap.size w w1 := ((Below.refl _ _).alloc (Nat.le_refl _) _).trans (hB.mono (by simp))
      have c0 := hK.cell 0 rfl
      have c1 := hK.cell 1 rfl
      have c2 := hK.cell 2 rfl
      have c3 := hK.cell 3 rfl
      have c4 := hK.cell 4 rfl
      clear hK hB
      rw [ha, hb]
      go_wp2_with (go_at_call 18; refine (awake13_any _).mono ?_; rintro e w2 ⟨rfl, hB2⟩; replace hB' := bthen hB' hB2; clear hB2)
      all_goals (go_ret; exact ⟨by rfl, hB'⟩)
    · have ha : mostA true n1 ho = n1 := by simp [mostA, h]
      have hb : mostB true n2 oc = oc := by simp [mostB, h2]
      have d1 : decide (n1 < ho) = true := by simp [h]
      have d2 : decide (n2 < oc) = false := by simp [h2]
      go_enter Try.func3, Try.ntmps3
      go_wp2_with fail
      have hK := Blk.new w [.bool true, .int .i64 n1, .int .i64 n2, .int .i64 ho, .int .i64 oc, .int .i64 t0, .int .i64 t1, .int .i64 t2, .int .i64 t3, .int .i64 t4, .int .i64 t5, .int .i64 t6, .int .i64 t7] 24
      refine (most_any _ _ _ _ _ _ _ _ _ _ _ _ _ _).mono ?_
      rintro e w1 ⟨rfl, hB⟩
      replace hK := hK.below hB
      have hB' : Below w.heap.size w w1 := ((Below.refl _ _).alloc (Nat.le_refl _) _).trans (hB.mono (by simp))
      have c0 := hK.cell 0 rfl
      have c1 := hK.cell 1 rfl
      have c2 := hK.cell 2 rfl
      have c3 := hK.cell 3 rfl
      have c4 := hK.cell 4 rfl
      clear hK hB
      rw [ha, hb]
      go_wp2_with (go_at_call 18; refine (awake13_any _).mono ?_; rintro e w2 ⟨rfl, hB2⟩; replace hB' := bthen hB' hB2; clear hB2)
      all_goals (go_ret; exact ⟨by rfl, hB'⟩)
    · have ha : mostA true n1 ho = ho := by simp [mostA, h]
      have hb : mostB true n2 oc = n2 := by simp [mostB, h2]
      have d1 : decide (n1 < ho) = false := by simp [h]
      have d2 : decide (n2 < oc) = true := by simp [h2]
      go_enter Try.func3, Try.ntmps3
      go_wp2_with fail
      have hK := Blk.new w [.bool true, .int .i64 n1, .int .i64 n2, .int .i64 ho, .int .i64 oc, .int .i64 t0, .int .i64 t1, .int .i64 t2, .int .i64 t3, .int .i64 t4, .int .i64 t5, .int .i64 t6, .int .i64 t7] 24
      refine (most_any _ _ _ _ _ _ _ _ _ _ _ _ _ _).mono ?_
      rintro e w1 ⟨rfl, hB⟩
      replace hK := hK.below hB
      have hB' : Below w.heap.size w w1 := ((Below.refl _ _).alloc (Nat.le_refl _) _).trans (hB.mono (by simp))
      have c0 := hK.cell 0 rfl
      have c1 := hK.cell 1 rfl
      have c2 := hK.cell 2 rfl
      have c3 := hK.cell 3 rfl
      have c4 := hK.cell 4 rfl
      clear hK hB
      rw [ha, hb]
      go_wp2_with (go_at_call 18; refine (awake13_any _).mono ?_; rintro e w2 ⟨rfl, hB2⟩; replace hB' := bthen hB' hB2; clear hB2)
      all_goals (go_ret; exact ⟨by rfl, hB'⟩)
    · have ha : mostA true n1 ho = ho := by simp [mostA, h]
      have hb : mostB true n2 oc = oc := by simp [mostB, h2]
      have d1 : decide (n1 < ho) = false := by simp [h]
      have d2 : decide (n2 < oc) = false := by simp [h2]
      go_enter Try.func3, Try.ntmps3
      go_wp2_with fail
      have hK := Blk.new w [.bool true, .int .i64 n1, .int .i64 n2, .int .i64 ho, .int .i64 oc, .int .i64 t0, .int .i64 t1, .int .i64 t2, .int .i64 t3, .int .i64 t4, .int .i64 t5, .int .i64 t6, .int .i64 t7] 24
      refine (most_any _ _ _ _ _ _ _ _ _ _ _ _ _ _).mono ?_
      rintro e w1 ⟨rfl, hB⟩
      replace hK := hK.below hB
      have hB' : Below w.heap.size w w1 := ((Below.refl _ _).alloc (Nat.le_refl _) _).trans (hB.mono (by simp))
      have c0 := hK.cell 0 rfl
      have c1 := hK.cell 1 rfl
      have c2 := hK.cell 2 rfl
      have c3 := hK.cell 3 rfl
      have c4 := hK.cell 4 rfl
      clear hK hB
      rw [ha, hb]
      go_wp2_with (go_at_call 18; refine (awake13_any _).mono ?_; rintro e w2 ⟨rfl, hB2⟩; replace hB' := bthen hB' hB2; clear hB2)
      all_goals (go_ret; exact ⟨by rfl, hB'⟩)
end Go.Proofs.Ytadheikcgdhcdaa
