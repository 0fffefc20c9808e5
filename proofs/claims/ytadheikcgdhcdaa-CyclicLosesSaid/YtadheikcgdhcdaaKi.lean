/-
  Which method a setup has: the walk.
-/
import Derived.Test.YtadheikcgdhcdaaForced
import Derived.Test.YtadheikcgdhcdaaWayM
namespace Go.Proofs.Ytadheikcgdhcdaa
open Go.RowKit
set_option linter.unusedVariables false
set_option linter.unusedSimpArgs false

theorem inv_fill_b (x : Addr) (w : World) : (method 242 64 (.pointer (some x)) "Fill").run Try.prog w = .ok (39, .pointer (some x)) w := by kernel_rfl
theorem inv_fill_c (x : Addr) (w : World) : (method 242 75 (.pointer (some x)) "Fill").run Try.prog w = .ok (60, .pointer (some x)) w := by kernel_rfl
theorem inv_hold_b (x : Addr) (w : World) : (method 242 64 (.pointer (some x)) "Hold").run Try.prog w = .ok (41, .pointer (some x)) w := by kernel_rfl
theorem inv_hold_c (x : Addr) (w : World) : (method 242 75 (.pointer (some x)) "Hold").run Try.prog w = .ok (47, .pointer (some x)) w := by kernel_rfl
theorem inv_next_b (x : Addr) (w : World) : (method 242 64 (.pointer (some x)) "Next").run Try.prog w = .ok (42, .pointer (some x)) w := by kernel_rfl
theorem inv_next_c (x : Addr) (w : World) : (method 242 75 (.pointer (some x)) "Next").run Try.prog w = .ok (48, .pointer (some x)) w := by kernel_rfl
theorem inv_answer_b (x : Addr) (w : World) : (method 242 64 (.pointer (some x)) "Answer").run Try.prog w = .ok (43, .pointer (some x)) w := by kernel_rfl
theorem inv_answer_c (x : Addr) (w : World) : (method 242 75 (.pointer (some x)) "Answer").run Try.prog w = .ok (50, .pointer (some x)) w := by kernel_rfl
theorem inv_take_b (x : Addr) (w : World) : (method 242 64 (.pointer (some x)) "Take").run Try.prog w = .ok (38, .pointer (some x)) w := by kernel_rfl
theorem inv_take_c (x : Addr) (w : World) : (method 242 75 (.pointer (some x)) "Take").run Try.prog w = .ok (52, .pointer (some x)) w := by kernel_rfl

theorem a5 (v : Value) (w : World) : (Instr.typeAssert (.iface 64 v) 94 64 false).run Try.prog w = .ok v w := by
  simp [Instr.typeAssert, run_underlying Try.underlying64, go_sem, Result.andThen]
theorem basic_is (b : Nat) (w : World) : Calls Try.prog 67 #[.iface 64 (.pointer (some ⟨b, 0, none⟩))] w fun e w' => e = .returned (.pointer (some ⟨b, 0, none⟩)) ∧ w' = w := by
  have e1 := a5 (.pointer (some ⟨b, 0, none⟩)) w
  go_enter Try.func67, Try.ntmps67
  go_wp2
  go_ret
  exact ⟨rfl, rfl⟩
theorem name_nil (w : World) : Calls Try.prog 65 #[.nilIface] w fun e w' => e = .returned (.string ⟨#[]⟩) ∧ w' = w := by
  have e1 : ∀ w : World, (Instr.typeAssert .nilIface 94 64 true).run Try.prog w = .ok (.tuple #[.pointer none, .bool false]) w := fun w => by kernel_rfl
  have e2 : ∀ w : World, (Instr.typeAssert .nilIface 94 75 true).run Try.prog w = .ok (.tuple #[.pointer none, .bool false]) w := fun w => by kernel_rfl
  go_enter Try.func65, Try.ntmps65
  go_wp2
  go_ret
  exact ⟨rfl, rfl⟩
theorem cyclic_nil (w : World) : Calls Try.prog 66 #[.nilIface] w fun e w' => e = .returned (.bool false) ∧ w' = w := by
  have e2 : ∀ w : World, (Instr.typeAssert .nilIface 94 75 true).run Try.prog w = .ok (.tuple #[.pointer none, .bool false]) w := fun w => by kernel_rfl
  go_enter Try.func66, Try.ntmps66
  go_wp2
  go_ret
  exact ⟨rfl, rfl⟩
set_option maxRecDepth 100000 in
theorem status_nil (st : Int) (w : World) : Calls Try.prog 64 #[.nilIface, .int .u8 st] w fun e w' => e = .returned (.agg unit0.toArray) ∧ Below w.heap.size w w' := by
  go_enter Try.func64, Try.ntmps64
  go_wp2
  refine bodyPost_ret (v := .agg unit0.toArray) (by simp [results, Try.results64, go_sem]) rfl ?_
  exact ⟨rfl, (Below.refl _ _).alloc (Nat.le_refl _) _⟩

set_option maxRecDepth 100000 in
theorem status_b {w : World} {b h : Nat} {m o : Int} {sv nv : Value} {s : BSt} (k : BX w b h m o sv nv s) (st : Int) :
    Calls Try.prog 64 #[.iface 64 (.pointer (some ⟨b, 0, none⟩)), .int .u8 st] w fun e w' => e = .returned (.agg #[.int .u8 s.last, .int .u8 ((s.f + s.ss.length - 1) % 128), .bool s.bib, .bool s.fib, .int .u8 1, .int .u8 st, .bool false, .slice none 0 0]) ∧ Below w.heap.size w w' := by
  have hi := inv_fill_b ⟨b, 0, none⟩
  have hR0 := Blk.new w unit0 69
  have hB1 : Below w.heap.size w (w.alloc (.cells unit0.toArray 69)) := (Below.refl _ _).alloc (Nat.le_refl _) _
  have hf := (k.below hB1).fill
  obtain ⟨N, hN⟩ : ∃ N, (s.f + (s.ss.length : Int) - 1) % 128 = N := ⟨_, rfl⟩
  rw [hN] at hf ⊢
  clear k hN
  go_enter Try.func64, Try.ntmps64
  go_wp2_with fail
  refine hf.mono ?_
  rintro e w1 ⟨rfl, hb⟩
  have hR1 := Blk.below hR0 hb
  have hR2 : Blk (w1.alloc (.cells #[.int .u8 s.last, .int .u8 N, .bool s.bib, .bool s.fib, .int .u8 1, .int .u8 st, .bool false, .slice none 0 0] 69)) w.heap.size unit0 69 := Blk.alloc hR1 _
  have hb2 : Below w.heap.size w w1 := hB1.trans (hb.mono (by simp))
  have hb3 : Below w.heap.size w (w1.alloc (.cells #[.int .u8 s.last, .int .u8 N, .bool s.bib, .bool s.fib, .int .u8 1, .int .u8 st, .bool false, .slice none 0 0] 69)) := hb2.alloc hb2.size _
  have hres := Blk.row hR2 [.int .u8 s.last, .int .u8 N, .bool s.bib, .bool s.fib, .int .u8 1, .int .u8 st, .bool false, .slice none 0 0]
  have r0 := Blk.cell hres 0 rfl
  have r1 := Blk.cell hres 1 rfl
  have r2 := Blk.cell hres 2 rfl
  have r3 := Blk.cell hres 3 rfl
  have r4 := Blk.cell hres 4 rfl
  have r5 := Blk.cell hres 5 rfl
  have r6 := Blk.cell hres 6 rfl
  have r7 := Blk.cell hres 7 rfl
  have hK := hR2
  unfold Blk at hK
  go_wp2_with (refine wpList_store_row rfl 69 (.tmp 4) (.tmp 14) rfl w.heap.size #[.int .u8 s.last, .int .u8 N, .bool s.bib, .bool s.fib, .int .u8 1, .int .u8 st, .bool false, .slice none 0 0] rfl rfl 69 _ hK (by kernel_rfl) rfl (by simp [Value.oneCell']) ?_)
  refine bodyPost_ret (v := .agg #[.int .u8 s.last, .int .u8 N, .bool s.bib, .bool s.fib, .int .u8 1, .int .u8 st, .bool false, .slice none 0 0]) (by simp [results, Try.results64, go_sem, r0, r1, r2, r3, r4, r5, r6, r7]) rfl ?_
  exact ⟨rfl, below_row hb3 (Nat.le_refl _) _⟩
set_option maxRecDepth 100000 in
theorem status_c {w : World} {b h : Nat} {m o : Int} {sv nv : Value} {s : CSt} (k : CX w b h m o sv nv s) (st : Int) :
    Calls Try.prog 64 #[.iface 75 (.pointer (some ⟨b, 0, none⟩)), .int .u8 st] w fun e w' => e = .returned (.agg #[.int .u8 s.last, .int .u8 ((s.f + s.ss.length - 1) % 128), .bool true, .bool true, .int .u8 1, .int .u8 st, .bool false, .slice none 0 0]) ∧ Below w.heap.size w w' := by
  have hi := inv_fill_c ⟨b, 0, none⟩
  have hR0 := Blk.new w unit0 69
  have hB1 : Below w.heap.size w (w.alloc (.cells unit0.toArray 69)) := (Below.refl _ _).alloc (Nat.le_refl _) _
  have hf := (k.below hB1).fill
  obtain ⟨N, hN⟩ : ∃ N, (s.f + (s.ss.length : Int) - 1) % 128 = N := ⟨_, rfl⟩
  rw [hN] at hf ⊢
  clear k hN
  go_enter Try.func64, Try.ntmps64
  go_wp2_with fail
  refine hf.mono ?_
  rintro e w1 ⟨rfl, hb⟩
  have hR1 := Blk.below hR0 hb
  have hR2 : Blk (w1.alloc (.cells #[.int .u8 s.last, .int .u8 N, .bool true, .bool true, .int .u8 1, .int .u8 st, .bool false, .slice none 0 0] 69)) w.heap.size unit0 69 := Blk.alloc hR1 _
  have hb2 : Below w.heap.size w w1 := hB1.trans (hb.mono (by simp))
  have hb3 : Below w.heap.size w (w1.alloc (.cells #[.int .u8 s.last, .int .u8 N, .bool true, .bool true, .int .u8 1, .int .u8 st, .bool false, .slice none 0 0] 69)) := hb2.alloc hb2.size _
  have hres := Blk.row hR2 [.int .u8 s.last, .int .u8 N, .bool true, .bool true, .int .u8 1, .int .u8 st, .bool false, .slice none 0 0]
  have r0 := Blk.cell hres 0 rfl
  have r1 := Blk.cell hres 1 rfl
  have r2 := Blk.cell hres 2 rfl
  have r3 := Blk.cell hres 3 rfl
  have r4 := Blk.cell hres 4 rfl
  have r5 := Blk.cell hres 5 rfl
  have r6 := Blk.cell hres 6 rfl
  have r7 := Blk.cell hres 7 rfl
  have hK := hR2
  unfold Blk at hK
  go_wp2_with (refine wpList_store_row rfl 69 (.tmp 4) (.tmp 14) rfl w.heap.size #[.int .u8 s.last, .int .u8 N, .bool true, .bool true, .int .u8 1, .int .u8 st, .bool false, .slice none 0 0] rfl rfl 69 _ hK (by kernel_rfl) rfl (by simp [Value.oneCell']) ?_)
  refine bodyPost_ret (v := .agg #[.int .u8 s.last, .int .u8 N, .bool true, .bool true, .int .u8 1, .int .u8 st, .bool false, .slice none 0 0]) (by simp [results, Try.results64, go_sem, r0, r1, r2, r3, r4, r5, r6, r7]) rfl ?_
  exact ⟨rfl, below_row hb3 (Nat.le_refl _) _⟩
theorem wnew_b (W w : World) (hb : Below W.heap.size W w) (n1 n2 ho oc t0 t1 t2 t3 t4 t5 t6 t7 : Int) : Calls Try.prog 62 #[.agg #[.bool false, .int .i64 n1, .int .i64 n2, .int .i64 ho, .int .i64 oc, .int .i64 t0, .int .i64 t1, .int .i64 t2, .int .i64 t3, .int .i64 t4, .int .i64 t5, .int .i64 t6, .int .i64 t7]] w fun e w' => ∃ b h, e = .returned (.iface 64 (.pointer (some ⟨b, 0, none⟩))) ∧ BOf W w' b h ho oc bst0 ∧ KpB w w' := by
  have hbw : Below w.heap.size w (w.alloc (.cells #[.bool false, .int .i64 n1, .int .i64 n2, .int .i64 ho, .int .i64 oc, .int .i64 t0, .int .i64 t1, .int .i64 t2, .int .i64 t3, .int .i64 t4, .int .i64 t5, .int .i64 t6, .int .i64 t7] 24)) := (Below.refl _ _).alloc (Nat.le_refl _) _
  go_enter Try.func62, Try.ntmps62
  go_wp2_with fail
  refine (BOf.new W _ (hb.alloc hb.size _) ho oc).mono ?_
  rintro e w1 ⟨b, h, rfl, hk, hK⟩
  go_wp2
  go_ret
  exact ⟨b, h, rfl, hk, (KpB.below hbw).trans hK⟩
theorem wnew_c (W w : World) (hb : Below W.heap.size W w) (n1 n2 ho oc t0 t1 t2 t3 t4 t5 t6 t7 : Int) (h1 : 1 ≤ n1) (h2 : 1 ≤ n2) : Calls Try.prog 62 #[.agg #[.bool true, .int .i64 n1, .int .i64 n2, .int .i64 ho, .int .i64 oc, .int .i64 t0, .int .i64 t1, .int .i64 t2, .int .i64 t3, .int .i64 t4, .int .i64 t5, .int .i64 t6, .int .i64 t7]] w fun e w' => ∃ b h, e = .returned (.iface 75 (.pointer (some ⟨b, 0, none⟩))) ∧ COf W w' b h ho oc (cst0 n1 n2) ∧ KpC w w' := by
  have hbw : Below w.heap.size w (w.alloc (.cells #[.bool true, .int .i64 n1, .int .i64 n2, .int .i64 ho, .int .i64 oc, .int .i64 t0, .int .i64 t1, .int .i64 t2, .int .i64 t3, .int .i64 t4, .int .i64 t5, .int .i64 t6, .int .i64 t7] 24)) := (Below.refl _ _).alloc (Nat.le_refl _) _
  go_enter Try.func62, Try.ntmps62
  go_wp2_with fail
  refine (COf.new W _ (hb.alloc hb.size _) ho oc n1 n2 h1 h2).mono ?_
  rintro e w1 ⟨b, h, rfl, hk, hK⟩
  go_wp2
  go_ret
  exact ⟨b, h, rfl, hk, (KpC.below hbw).trans hK⟩
end Go.Proofs.Ytadheikcgdhcdaa
