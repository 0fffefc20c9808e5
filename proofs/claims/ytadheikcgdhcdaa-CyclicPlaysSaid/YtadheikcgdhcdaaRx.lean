/-
  The reference's next unit of a cyclic way.
-/
import Derived.Test.YtadheikcgdhcdaaRi
import Derived.Test.YtadheikcgdhcdaaRw
namespace Go.Proofs.Ytadheikcgdhcdaa
open Go.RowKit Go.Sort
set_option linter.unusedVariables false
set_option linter.unusedSimpArgs false

theorem wpList_side_load_g {ops : Array Oper} {rest : List Oper} {o : Oper} {a : Act} {w : World} {Q : Exit → Act → World → Prop} (x : Operand) (ho : o.op = .load 51 x) (hw : Region.wanted o (yielded ops a.tmps) = true)
    (g : Nat) (hx : a.eval x = .pointer (some ⟨g, 0, none⟩)) (cs : List Value) (hg : Blk w g cs 51) (hl : cs.length = 18)
    (h : wpList Try.prog ops Q rest (a.put o.dst (.agg cs.toArray)) w) : wpList Try.prog ops Q (o :: rest) a w :=
  wpList_step fun K hK => by rw [if_pos hw]; exact wp_load_row 51 x ho g hx 51 cs.toArray (0, 0) _ hg Try.underlying51 rfl (by rw [info51]; simp [hl]) (hK _ _ h)
theorem res_two {fn : Func} {p u : Tmp} (h : fn.results = #[.cell p 51, .cell u 69]) {tmps : Array Value} {w : World} {g k : Nat} {cs us : List Value}
    (hp : tmps.getD p undef = .pointer (some ⟨g, 0, none⟩)) (hg : Blk w g cs 51) (hi : cs.length = 18) (hu : tmps.getD u undef = .pointer (some ⟨k, 0, none⟩)) (hk : Blk w k us 69) (hj : us.length = 8) :
    (results fn tmps).run Try.prog w = .ok (.tuple #[.agg cs.toArray, .agg us.toArray]) w := by
  have l1 := run_loadVar_row (P := Try.prog) w g 51 51 cs.toArray (0, 0) _ hg Try.underlying51 rfl (by rw [info51]; simp [hi])
  have l2 := run_loadVar_row (P := Try.prog) w k 69 69 us.toArray (0, 0) _ hk Try.underlying69 rfl (by rw [info69]; simp [hj])
  have a1 : (asAddr (.pointer (some ⟨g, 0, none⟩))).run Try.prog w = .ok ⟨g, 0, none⟩ w := rfl
  have a2 : (asAddr (.pointer (some ⟨k, 0, none⟩))).run Try.prog w = .ok ⟨k, 0, none⟩ w := rfl
  have hp' : tmps[p]?.getD undef = .pointer (some ⟨g, 0, none⟩) := by simpa using hp
  have hu' : tmps[u]?.getD undef = .pointer (some ⟨k, 0, none⟩) := by simpa using hu
  simp only [results, h]
  simp [Sem.run_bind, Result.andThen, hp', hu', a1, a2, l1, l2]
theorem side_two (w : World) (cs : List Value) : ∃ X, X = ((w.alloc (.cells cs.toArray 51)).alloc (.cells #[.slice none 0 0, .int .i64 0, .int .i64 0, .int .i64 0, .int .i64 0, .bool false, .int .i64 0, .int .i64 0, .bool false, .bool false, .int .i64 0, .bool false, .int .i64 0, .bool false, .bool false, .bool false, .bool false, .bool false] 51)).alloc (.cells #[.int .u8 0, .int .u8 0, .bool false, .bool false, .int .u8 0, .int .u8 0, .bool false, .slice none 0 0] 69) ∧ Blk X w.heap.size cs 51 ∧ Blk X (w.heap.size + 1) side0 51 ∧ Blk X (w.heap.size + 1 + 1) unit0 69 ∧ Below w.heap.size w X := by
  obtain ⟨Y, hY, h1, h2, hb⟩ := side_in w cs
  refine ⟨_, rfl, Blk.alloc (hY ▸ h1) _, Blk.alloc (hY ▸ h2) _, ?_, (hY ▸ hb : Below w.heap.size w _).alloc (by simp; omega) _⟩
  have := Blk.new ((w.alloc (.cells cs.toArray 51)).alloc (.cells #[.slice none 0 0, .int .i64 0, .int .i64 0, .int .i64 0, .int .i64 0, .bool false, .int .i64 0, .int .i64 0, .bool false, .bool false, .int .i64 0, .bool false, .int .i64 0, .bool false, .bool false, .bool false, .bool false, .bool false] 51)) unit0 69
  rw [World.size_alloc, World.size_alloc] at this
  exact this
theorem two_seq {P : Program} {ops : Array Oper} {Q : Exit → Act → World → Prop} {a : Act} {w : World} {L : Array Bool} (i j : Nat) (h0 : Region.ready .any ops L = [i]) (h1 : Region.ready .any ops (L.setIfInBounds i true) = [j]) (h2 : Region.ready .any ops ((L.setIfInBounds i true).setIfInBounds j true) = [])
    (h : wpOp P ops Q i (fun a w => wpOp P ops Q j (fun a w => Q .normal a w) a w) a w) : wpAny P .any ops Q 2 L a w := by
  refine ⟨fun e => (by rw [h0] at e; cases e), fun k hk => ?_⟩
  rw [h0] at hk
  obtain rfl := List.mem_singleton.1 hk
  exact wpOp_mono (fun a w hq => one_left j h1 h2 hq) h
/-- A new block for a side. -/
theorem side_box (w : World) (cs : List Value) : ∃ X, X = (w.alloc (.cells #[.slice none 0 0, .int .i64 0, .int .i64 0, .int .i64 0, .int .i64 0, .bool false, .int .i64 0, .int .i64 0, .bool false, .bool false, .int .i64 0, .bool false, .int .i64 0, .bool false, .bool false, .bool false, .bool false, .bool false] 51)).setRow w.heap.size cs.toArray ∧ Blk X w.heap.size cs 51 ∧ Below w.heap.size w X :=
  ⟨_, rfl, Blk.row (Blk.new w side0 51) cs, below_row ((Below.refl _ _).alloc (Nat.le_refl _) _) (Nat.le_refl _) _⟩
set_option maxHeartbeats 4000000 in
set_option maxRecDepth 100000 in
/-- A new one goes. -/
theorem ragain_new {W w : World} {vL : Value} {L : List (List Int)} (hL : RR W w vL L) (sent : Nat) (first most oct : Int) (t : SdT) (hs : sent < L.length) (hn : L.length ≤ 1000) (h3 : ∀ x ∈ L, x.length ≤ 300) (hfit : fitsR sent t.n1 t.n2 L = true) (hfo : t.force = false) (h127 : sent < 127)
    (hl : 0 ≤ t.last ∧ t.last ≤ 255) (hf : 0 ≤ first ∧ first ≤ 127) (x : List Int) (hx : L[sent]? = some x) :
    Calls Try.prog 87 #[.agg (sdc vL sent first most oct t).toArray] w fun e w' => ∃ v, Oct W v x ∧ e = .returned (.tuple #[.agg (sdc vL ((sent : Int) + 1) first most oct t).toArray, .agg (ucs t.last ((first + sent) % 128) t.bib t.fib 2 v).toArray]) ∧ Below w.heap.size w w' := by
  obtain ⟨g, off, c, v, rfl, hc, hv⟩ := hL.msg sent x hx
  have hcap := hL.len
  have hv0 := hv
  obtain ⟨va, vc, rfl, -⟩ := hv
  obtain ⟨X, hX, hS, hR, hU, hb⟩ := side_two w (sdc (.slice (some ⟨g, off, none⟩) L.length c) sent first most oct t)
  have hcX := (hb.cell (World.block_lt_of_cell? _ _ hc)).trans hc
  have hLX := hL.below hb
  have hfi := fun w' (hb' : Below X.heap.size X w') => rfits (hLX.below hb') sent first most oct t hs hn h3
  rw [hfit] at hfi
  have hrs := fun w' => rsend (some ⟨g, off, none⟩) L.length c sent first most oct t w' (by omega) hn
  rw [if_neg (by omega), if_neg (by omega), if_neg (by omega), if_neg (by omega)] at hrs
  have hmsg := fun w' (hb' : Below X.heap.size X w') => rmsg g off L.length c va x.length vc w' ((sent : Int) + 1) first most oct t sent hs ⟨hcap.2.1, hcap.2.2⟩ ((hb'.cell (World.block_lt_of_cell? _ _ hcX)).trans hcX) hl hf hn
  have HV := Lib.hid hv0
  obtain ⟨n, hnn⟩ : ∃ n, L.length = n := ⟨_, rfl⟩
  rw [hnn] at hX hS hs hn hfi hrs hmsg ⊢
  have hsi : (sent : Int) < (n : Int) := by omega
  obtain ⟨N, hN⟩ : ∃ N, (first + (sent : Int)) % 128 = N := ⟨_, rfl⟩
  rw [hN] at hmsg ⊢
  have hw1 : IntKind.i64.wrap (sent : Int) = (sent : Int) := wrapH _ (by omega)
  have c0 := hS.cell 0 rfl
  have c1 := hS.cell 1 rfl
  clear hL hLX hc hv0 hfit h3 hx hnn hN hcap
  go_enter Try.func87, Try.ntmps87
  go_upto_region 1 with fail
  rw [← hX]
  clear hX
  go_wp2_with (first | (refine wpList_side_load_g (.tmp 1) (by rfl) (by rfl) w.heap.size (by rfl) _ hS (by rfl) ?_) | (refine wpList_side_load rfl (.tmp 1) rfl w.heap.size rfl _ hS rfl ?_))
  refine (hfi X (Below.refl _ _)).mono ?_
  rintro e X1 ⟨rfl, hb1⟩
  have hS1 := hS.below hb1
  have c13 := hS1.cell 13 rfl
  rw [hfo] at c13
  clear hfi c0 c1 hS
  go_wp2_with (refine wpList_side_load rfl (.tmp 1) rfl w.heap.size rfl _ hS1 rfl ?_)
  refine (hrs X1).mono ?_
  rintro e X2 ⟨rfl, hb2⟩
  obtain ⟨X3, hX3, hB5, hb3⟩ := side_box X2 (sdc (.slice (some ⟨g, off, none⟩) n c) ((sent : Int) + 1) first most oct t)
  have hR0 := Blk.new X2 side0 51
  have hbX3 := bthen (bthen hb1 hb2) hb3
  clear hrs hS1 c13
  go_upto_region 6 with (refine wpList_side_store rfl (.tmp 5) (.tmp 30) rfl X2.heap.size (sdc (.slice (some ⟨g, off, none⟩) n c) ((sent : Int) + 1) first most oct t) side0 rfl rfl hR0 rfl rfl (sdc_one _ _ _ _ _ _ _ _) ?_)
  rw [← hX3]
  clear hX3 hR0
  go_upto_region 7 with fail
  have hBq := blk_regrown hB5
  have k1 := cell_regrown (hB5.cell 1 rfl)
  have c88 := fun d os => Calls.regrown_of (hmsg (grow (redrawn X3 d) os) (bthen hbX3 (below_regrown X3 d os)))
  clear hmsg
  refine wp_region_below_tail 6 2 (by rfl) (by kernel_rfl) (by kernel_rfl) ?_
  simp only [List.take_succ_cons, List.take_zero]
  repeat (first | (refine WQ.load (.tmp 5) (by rfl) (by rfl) X2.heap.size (by rfl) _ hBq (by rfl) ?_) | (refine WQ.step (fun K hK => ?_); go_simp; first | (refine hK _ ?_; clear hK K) | (apply Exists.intro; refine ⟨fun _ => ?_, hK _ ?_⟩; (go_at_call 88; exact c88 _ _); clear hK K)))
  refine WQ.nil ?_
  intro X4 hb4
  have hbX4 := bthen hbX3 hb4
  have hR4 := hR.below hbX4
  have hU4 := hU.below hbX4
  have hbw := bthen hb hbX4
  clear hBq k1 c88 hb1 hb2 hb3 hb4
  refine two_seq 6 7 (by kernel_rfl) (by kernel_rfl) (by kernel_rfl) ?_
  · have hU5 := hU4.fr (Fr.row1 X4 (w.heap.size + 1) (sdc (.slice (some ⟨g, off, none⟩) n c) ((sent : Int) + 1) first most oct t).toArray) (fun e => by omega)
    refine wpOp_side_store (by rfl) (by rfl) (by rfl) (.tmp 2) (.tmp 34) (by rfl) (w.heap.size + 1) (sdc (.slice (some ⟨g, off, none⟩) n c) ((sent : Int) + 1) first most oct t) side0 (by rfl) (by rfl) hR4 (by rfl) (by rfl) (sdc_one _ _ _ _ _ _ _ _) ?_
    refine wpOp_unit_store (by rfl) (by rfl) (by rfl) (.tmp 3) (.tmp 39) (by rfl) (w.heap.size + 1 + 1) (ucs t.last N t.bib t.fib 2 (.slice va x.length vc)) unit0 (by rfl) (by rfl) hU5 (by rfl) (by rfl) (ucs_one _ _ _ _ _ _ _ _) ?_
    have hRes := (Blk.row hR4 (sdc (.slice (some ⟨g, off, none⟩) n c) ((sent : Int) + 1) first most oct t)).fr (Fr.row1 (X4.setRow (w.heap.size + 1) (sdc (.slice (some ⟨g, off, none⟩) n c) ((sent : Int) + 1) first most oct t).toArray) (w.heap.size + 1 + 1) (ucs t.last N t.bib t.fib 2 (.slice va x.length vc)).toArray) (fun e => by omega)
    go_wp2
    refine bodyPost_ret (res_two Try.results87 (by rfl) hRes rfl (by rfl) (Blk.row hU5 _) rfl) rfl ⟨_, HV.out, rfl, ?_⟩
    exact below_row (below_row hbw (by omega) _) (by omega) _
end Go.Proofs.Ytadheikcgdhcdaa
