/-
  The reference's units: a head, one that says nothing, one with a message.
-/
import Derived.Test.YtadheikcgdhcdaaHpR
import Derived.Test.YtadheikcgdhcdaaRv
import Derived.Test.YtadheikcgdhcdaaBas3
namespace Go.Proofs.Ytadheikcgdhcdaa
open Go.RowKit Go.Sort
set_option linter.unusedVariables false
set_option linter.unusedSimpArgs false

/-- A unit's cells. -/
def ucs (bsn fsn : Int) (bib fib : Bool) (kind : Int) (v : Value) : List Value := [.int .u8 bsn, .int .u8 fsn, .bool bib, .bool fib, .int .u8 kind, .int .u8 0, .bool false, v]
theorem info69 : (Try.prog.info? 69).map (·.size) = some 8 := by kernel_rfl
theorem ucs_one (bsn fsn : Int) (bib fib : Bool) (kind : Int) (a : Option Addr) (n c : Nat) : (ucs bsn fsn bib fib kind (.slice a n c)).toArray.all (·.oneCell') = true := by simp [ucs, Value.oneCell']
theorem wpList_unit_load {ops : Array Oper} {rest : List Oper} {o : Oper} {a : Act} {w : World} {Q : Exit → Act → World → Prop} (hgd : o.guard = none) (x : Operand) (ho : o.op = .load 69 x)
    (g : Nat) (hx : a.eval x = .pointer (some ⟨g, 0, none⟩)) (cs : List Value) (hg : Blk w g cs 69) (hl : cs.length = 8)
    (h : wpList Try.prog ops Q rest (a.put o.dst (.agg cs.toArray)) w) : wpList Try.prog ops Q (o :: rest) a w :=
  wpList_load_row hgd 69 x ho g hx 69 cs.toArray (0, 0) _ hg Try.underlying69 rfl (by rw [info69]; simp [hl]) h
theorem wpList_unit_store {ops : Array Oper} {rest : List Oper} {o : Oper} {a : Act} {w : World} {Q : Exit → Act → World → Prop} (hgd : o.guard = none) (x y : Operand) (ho : o.op = .store 69 x y)
    (g : Nat) (cs old : List Value) (hx : a.eval x = .pointer (some ⟨g, 0, none⟩)) (hy : a.eval y = .agg cs.toArray) (hg : Blk w g old 69) (hl : cs.length = 8) (hlo : old.length = 8) (h1 : cs.toArray.all (·.oneCell') = true)
    (h : wpList Try.prog ops Q rest (a.put o.dst undef) (w.setRow g cs.toArray)) : wpList Try.prog ops Q (o :: rest) a w :=
  wpList_store_row hgd 69 x y ho g cs.toArray hx hy 69 old.toArray hg (by rw [info69]; simp [hl]) (by simp [hl, hlo]) h1 h
theorem res_unit {fn : Func} {p : Tmp} (h : fn.results = #[.cell p 69]) {tmps : Array Value} {w : World} {g : Nat} {cs : List Value}
    (hp : tmps.getD p undef = .pointer (some ⟨g, 0, none⟩)) (hg : Blk w g cs 69) (hi : cs.length = 8) :
    (results fn tmps).run Try.prog w = .ok (.agg cs.toArray) w :=
  results_cell_row h tmps w g 69 cs.toArray (0, 0) _ hp hg Try.underlying69 rfl (by rw [info69]; simp [hi])
/-- A side that came in, and the block of a unit. -/
theorem side_unit (w : World) (cs : List Value) : ∃ X, X = (w.alloc (.cells cs.toArray 51)).alloc (.cells #[.int .u8 0, .int .u8 0, .bool false, .bool false, .int .u8 0, .int .u8 0, .bool false, .slice none 0 0] 69) ∧ Blk X w.heap.size cs 51 ∧ Blk X (w.heap.size + 1) unit0 69 ∧ Below w.heap.size w X := by
  refine ⟨_, rfl, Blk.alloc (Blk.new w cs 51) _, ?_, ((Below.refl _ _).alloc (Nat.le_refl _) _).alloc (by simp) _⟩
  have := Blk.new (w.alloc (.cells cs.toArray 51)) unit0 69
  rw [World.size_alloc] at this
  exact this
set_option maxRecDepth 100000 in
theorem rhead (a : Option Addr) (n c : Nat) (sent first most oct : Int) (t : SdT) (i : Int) (w : World) (hl : 0 ≤ t.last ∧ t.last ≤ 255) (hi : 0 ≤ i ∧ i ≤ 255) :
    Calls Try.prog 90 #[.agg (sdc (.slice a n c) sent first most oct t).toArray, .int .i64 i] w fun e w' => e = .returned (.agg (ucs t.last i t.bib t.fib 0 (.slice none 0 0)).toArray) ∧ Below w.heap.size w w' := by
  obtain ⟨X, hX, hS, hR, hb⟩ := side_unit w (sdc (.slice a n c) sent first most oct t)
  have c8 := hS.cell 8 rfl
  have c9 := hS.cell 9 rfl
  have c10 := hS.cell 10 rfl
  have hw1 : IntKind.u8.wrap t.last = t.last := by simp [IntKind.wrap, IntKind.bits, IntKind.signed]; omega
  have hw2 : IntKind.u8.wrap i = i := by simp [IntKind.wrap, IntKind.bits, IntKind.signed]; omega
  go_enter Try.func90, Try.ntmps90
  go_upto_region 1 with fail
  rw [← hX]
  clear hX
  go_wp2_with (refine wpList_unit_store rfl (.tmp 4) (.tmp 16) rfl (w.heap.size + 1) (ucs t.last i t.bib t.fib 0 (.slice none 0 0)) unit0 rfl rfl (Blk.alloc hR _) rfl rfl (ucs_one _ _ _ _ _ _ _ _) ?_)
  refine bodyPost_ret (res_unit Try.results90 (by rfl) (Blk.row (Blk.alloc hR _) _) rfl) rfl ⟨rfl, ?_⟩
  exact below_row (hb.alloc hb.size _) (by omega) _
theorem wpOp_unit_store {ops : Array Oper} {Q : Exit → Act → World → Prop} {a : Act} {w : World} {K : Act → World → Prop} {j : Nat} {o : Oper} (hj : ops[j]? = some o) (hgd : o.guard = none) (hd : o.dst = none) (x y : Operand) (ho : o.op = .store 69 x y)
    (g : Nat) (cs old : List Value) (hx : a.eval x = .pointer (some ⟨g, 0, none⟩)) (hy : a.eval y = .agg cs.toArray) (hg : Blk w g old 69) (hl : cs.length = 8) (hlo : old.length = 8) (h1 : cs.toArray.all (·.oneCell') = true)
    (h : K a (w.setRow g cs.toArray)) : wpOp Try.prog ops Q j K a w :=
  wpOp_row hj hgd hd 69 x y ho g cs.toArray hx hy 69 old.toArray hg (by rw [info69]; simp [hl]) (by simp [hl, hlo]) h1 h
set_option maxRecDepth 100000 in
theorem rfill (a : Option Addr) (n c : Nat) (sent first most oct : Int) (t : SdT) (w : World) (hl : 0 ≤ t.last ∧ t.last ≤ 255) (hf : 0 ≤ first ∧ first ≤ 127) (hs : 0 ≤ sent ∧ sent ≤ 1000) :
    Calls Try.prog 61 #[.agg (sdc (.slice a n c) sent first most oct t).toArray] w fun e w' => e = .returned (.agg (ucs t.last ((first + sent - 1) % 128) t.bib t.fib 0 (.slice none 0 0)).toArray) ∧ Below w.heap.size w w' := by
  obtain ⟨X, hX, hS, hR, hb⟩ := side_unit w (sdc (.slice a n c) sent first most oct t)
  have hw1 : IntKind.i64.wrap (sent - 1) = sent - 1 := wrapH _ (by omega)
  obtain ⟨N, hN⟩ : ∃ N, (first + sent - 1) % 128 = N := ⟨_, rfl⟩
  have hnum := fun w => rnumber a n c sent first most oct t (sent - 1) w (by omega) (by omega) (by omega) hf
  rw [show (first + (sent - 1)) % 128 = N from by rw [← hN]; congr 1; omega] at hnum
  have c30 := fun d os => Calls.regrown_of (hnum (grow (redrawn X d) os))
  have c90 := fun d os => Calls.regrown_of (rhead a n c sent first most oct t N (grow (redrawn X d) os) hl (by omega))
  rw [hN]
  have hBq := blk_regrown hS
  have k1 := cell_regrown (hS.cell 1 rfl)
  go_enter Try.func61, Try.ntmps61
  go_upto_region 1 with fail
  rw [← hX]
  clear hX
  refine wp_region_below_tail 7 1 (by rfl) (by kernel_rfl) (by kernel_rfl) ?_
  simp only [List.take_succ_cons, List.take_zero]
  repeat (first | (refine WQ.load (.tmp 1) (by rfl) (by rfl) w.heap.size (by rfl) _ hBq (by rfl) ?_) | (refine WQ.step (fun K hK => ?_); go_simp; first | (refine hK _ ?_; clear hK K) | (apply Exists.intro; refine ⟨fun _ => ?_, hK _ ?_⟩; (first | (go_at_call 30; exact c30 _ _) | (go_at_call 90; exact c90 _ _)); clear hK K)))
  refine WQ.nil ?_
  intro w1 hb1
  have hR1 := hR.below hb1
  refine one_left 7 (by kernel_rfl) (by kernel_rfl) ?_
  refine wpOp_unit_store (by rfl) (by rfl) (by rfl) (.tmp 2) (.tmp 9) (by rfl) (w.heap.size + 1) (ucs t.last N t.bib t.fib 0 (.slice none 0 0)) unit0 (by rfl) (by rfl) hR1 (by rfl) (by rfl) (ucs_one _ _ _ _ _ _ _ _) ?_
  go_wp2
  refine bodyPost_ret (res_unit Try.results61 (by rfl) (Blk.row hR1 _) rfl) rfl ⟨rfl, ?_⟩
  exact below_row (bthen hb hb1) (by omega) _
theorem alloc69 (pos : String) (ty : TypeId) (after : Array Edge) (dst : Option Tmp) (g : Option (Nat × Bool)) (ρ : Operand → Value) (w : World) : (execOp ρ { dst := dst, op := .alloc 69, type := ty, pos := pos, after := after, guard := g }).run Try.prog w = .ok (.value (.pointer (some ⟨w.heap.size, 0, none⟩))) (w.alloc (.cells #[.int .u8 0, .int .u8 0, .bool false, .bool false, .int .u8 0, .int .u8 0, .bool false, .slice none 0 0] 69)) := by
  go_simp
theorem quietAt_load {C : World → Prop} {o : Oper} {a : Act} {w : World} (x : Operand) (ho : o.op = .load 51 x) (g : Nat) (hx : a.eval x = .pointer (some ⟨g, 0, none⟩)) (cs : List Value) (hg : Blk w g cs 51) (hl : cs.length = 18) : o.quietAt Try.prog a C w (.agg cs.toArray) :=
  quietAt_value (run_side_load x ho g hx cs hg hl)
set_option maxHeartbeats 4000000 in
set_option maxRecDepth 100000 in
/-- A unit with the i-th message. -/
theorem rmsg (g off n c : Nat) (va : Option Addr) (xl vc : Nat) (w : World) (sent first most oct : Int) (t : SdT) (i : Nat) (hil : i < n) (hcap : n ≤ c ∧ c ≤ maxLen) (hc : w.cell? ⟨g, off + i, none⟩ = some (.slice va xl vc)) (hl : 0 ≤ t.last ∧ t.last ≤ 255) (hf : 0 ≤ first ∧ first ≤ 127) (hn : n ≤ 1000) :
    Calls Try.prog 88 #[.agg (sdc (.slice (some ⟨g, off, none⟩) n c) sent first most oct t).toArray, .int .i64 i] w fun e w' => e = .returned (.agg (ucs t.last ((first + i) % 128) t.bib t.fib 2 (.slice va xl vc)).toArray) ∧ Below w.heap.size w w' := by
  obtain ⟨N, hN⟩ : ∃ N, (first + (i : Int)) % 128 = N := ⟨_, rfl⟩
  obtain ⟨X, hX, hS, hR, hb⟩ := side_unit w (sdc (.slice (some ⟨g, off, none⟩) n c) sent first most oct t)
  have hnum := fun w => rnumber (some ⟨g, off, none⟩) n c sent first most oct t (i : Int) w (by omega) (by omega) (by omega) hf
  have hhd := fun w => rhead (some ⟨g, off, none⟩) n c sent first most oct t N w hl (by omega)
  rw [hN] at hnum ⊢
  have hcX := (hb.cell (World.block_lt_of_cell? _ _ hc)).trans hc
  clear hc
  go_enter Try.func88, Try.ntmps88
  go_upto_region 1 with fail
  rw [← hX]
  clear hX
  refine wp_region_float 5 5 (by kernel_rfl) (.cells #[.int .u8 0, .int .u8 0, .bool false, .bool false, .int .u8 0, .int .u8 0, .bool false, .slice none 0 0] 69)
    (((((Act.put _ (some 6) (.agg (sdc (.slice (some ⟨g, off, none⟩) n c) sent first most oct t).toArray)).put (some 7) (.agg (sdc (.slice (some ⟨g, off, none⟩) n c) sent first most oct t).toArray)).put (some 8) (.int .i64 i)).put (some 9) (.int .i64 N)).put (some 10) (.agg (ucs t.last N t.bib t.fib 0 (.slice none 0 0)).toArray))
    [.agg (sdc (.slice (some ⟨g, off, none⟩) n c) sent first most oct t).toArray, .agg (sdc (.slice (some ⟨g, off, none⟩) n c) sent first most oct t).toArray, .int .i64 i, .int .i64 N, .agg (ucs t.last N t.bib t.fib 0 (.slice none 0 0)).toArray]
    ((((((Agree.refl _ _).putR 6 _ ⟨0, _, rfl, rfl, rfl⟩).putR 7 _ ⟨1, _, rfl, rfl, rfl⟩).putR 8 _ ⟨2, _, rfl, rfl, rfl⟩).putR 9 _ ⟨3, _, rfl, rfl, rfl⟩).putR 10 _ ⟨4, _, rfl, rfl, rfl⟩) (by simp [Act.put]) ?_ ?_ ?_
  · refine ⟨⟨fun t ht => ?_, fun w1 hw1 => ?_⟩, ⟨fun t ht => ?_, fun w1 hw1 => ?_⟩, ⟨fun t ht => ?_, fun w1 hw1 => ?_⟩, ⟨fun t ht => ?_, fun w1 hw1 => ?_⟩, ⟨fun t ht => ?_, fun w1 hw1 => ?_⟩, trivial⟩
    · cases ht; simp [Act.put]
    · exact quietAt_load (.tmp 2) (by rfl) w.heap.size (by simp [Act.put, Act.eval]) _ (hS.below hw1) (by rfl)
    · cases ht; simp [Act.put]
    · exact quietAt_load (.tmp 2) (by rfl) w.heap.size (by simp [Act.put, Act.eval]) _ (hS.below hw1) (by rfl)
    · cases ht; simp [Act.put]
    · exact quietAt_value (by rfl)
    · cases ht; simp [Act.put]
    · exact quietAt_call (by go_simp) (hnum w1)
    · cases ht; simp [Act.put]
    · exact quietAt_call (by go_simp) (hhd w1)
  · intro o a w1 ho
    obtain rfl := Option.some.inj ho
    exact alloc69 _ _ _ _ _ _ _
  · intro w1 p hp hw1 hpo
    have hP : Blk w1 p unit0 69 := hpo
    have hR1 := hR.below hw1
    have hS1 := hS.below hw1
    refine wpOp_unit_store (by rfl) (by rfl) (by rfl) (.tmp 5) (.tmp 10) (by rfl) p (ucs t.last N t.bib t.fib 0 (.slice none 0 0)) unit0 (by rfl) (by rfl) hP (by rfl) (by rfl) (ucs_one _ _ _ _ _ _ _ _) ?_
    have hB2 := below_row hw1 hp (ucs t.last N t.bib t.fib 0 (.slice none 0 0)).toArray
    have hP2 := Blk.row hP (ucs t.last N t.bib t.fib 0 (.slice none 0 0))
    have hgl := World.block_lt_of_cell? _ _ hcX
    generalize w1.setRow p (ucs t.last N t.bib t.fib 0 (.slice none 0 0)).toArray = w2 at *
    clear hw1 hpo hP hR1 hS1
    have p4 := hP2.cell 4 rfl
    have f4 := hP2.frozen 4
    go_upto_region 3 with fail
    have hB3 := hB2.setCell (p := ⟨p, 4, none⟩) hp (.int .u8 2)
    have hP3 := (hP2.set 4 (.int .u8 2)).as (show _ = ucs t.last N t.bib t.fib 2 (.slice none 0 0) from rfl)
    clear p4 f4 hP2 hB2
    generalize w2.setCell ⟨p, 4, none⟩ (.int .u8 2) = w3 at *
    have c0 := (hS.below hB3).cell 0 rfl
    have cm := (hB3.cell hgl).trans hcX
    have p7 := hP3.cell 7 rfl
    have f7 := hP3.frozen 7
    go_upto_region 4 with fail
    have hB4 := hB3.setCell (p := ⟨p, 7, none⟩) hp (.slice va xl vc)
    have hP4 := (hP3.set 7 (.slice va xl vc)).as (show _ = ucs t.last N t.bib t.fib 2 (.slice va xl vc) from rfl)
    clear p7 f7 hP3 hB3 c0 cm
    generalize w3.setCell ⟨p, 7, none⟩ (.slice va xl vc) = w4 at *
    have hR4 := hR.below hB4
    go_wp2_with (first | (refine wpList_unit_load rfl (.tmp 5) rfl p rfl _ hP4 rfl ?_) | (refine wpList_unit_store rfl (.tmp 4) (.tmp 18) rfl (w.heap.size + 1) (ucs t.last N t.bib t.fib 2 (.slice va xl vc)) unit0 rfl rfl hR4 rfl rfl (ucs_one _ _ _ _ _ _ _ _) ?_))
    refine bodyPost_ret (res_unit Try.results88 (by rfl) (Blk.row hR4 _) rfl) rfl ⟨rfl, ?_⟩
    exact below_row (bthen hb hB4) (by omega) _
end Go.Proofs.Ytadheikcgdhcdaa
