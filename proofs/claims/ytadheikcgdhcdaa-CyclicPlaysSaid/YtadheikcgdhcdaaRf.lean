/-
  The reference's side of a way: what each of its functions answers.
-/
import Derived.Laws.ResultCell
import Derived.Test.YtadheikcgdhcdaaHxT
namespace Go.Proofs.Ytadheikcgdhcdaa
open Go.RowKit
set_option linter.unusedVariables false
set_option linter.unusedSimpArgs false

/-- What a side has besides its messages and the numbers of a hold. -/
structure SdT where
  cyc : Bool
  n1 : Int
  n2 : Int
  fib : Bool
  bib : Bool
  last : Int
  asked : Bool
  place : Int
  force : Bool
  b1 : Bool
  b2 : Bool
  i1 : Bool
  i2 : Bool
/-- A side's cells. -/
def sdc (vL : Value) (sent first most oct : Int) (t : SdT) : List Value := [vL, .int .i64 sent, .int .i64 first, .int .i64 most, .int .i64 oct, .bool t.cyc, .int .i64 t.n1, .int .i64 t.n2, .bool t.fib, .bool t.bib, .int .i64 t.last, .bool t.asked, .int .i64 t.place, .bool t.force, .bool t.b1, .bool t.b2, .bool t.i1, .bool t.i2]
def side0 : List Value := sdc (.slice none 0 0) 0 0 0 0 ⟨false, 0, 0, false, false, 0, false, 0, false, false, false, false, false⟩
theorem info51 : (Try.prog.info? 51).map (·.size) = some 18 := by kernel_rfl
theorem under51 : ∃ d, Try.prog.underlying 51 = some d ∧ (match d with | .struct _ | .array _ _ => true | _ => false) = true := ⟨_, Try.underlying51, rfl⟩
theorem sdc_one (a : Option Addr) (n c : Nat) (sent first most oct : Int) (t : SdT) : (sdc (.slice a n c) sent first most oct t).toArray.all (·.oneCell') = true := by simp [sdc, Value.oneCell']
theorem res_row {fn : Func} {p u : Tmp} (h : fn.results = #[.cell p 51, .tmp u]) {tmps : Array Value} {w : World} {g : Nat} {cs : List Value}
    (hp : tmps.getD p undef = .pointer (some ⟨g, 0, none⟩)) (hg : Blk w g cs 51) (hi : cs.length = 18) :
    (results fn tmps).run Try.prog w = .ok (.tuple #[.agg cs.toArray, tmps.getD u undef]) w := by
  have hl := run_loadVar_row (P := Try.prog) w g 51 51 cs.toArray (0, 0) _ hg Try.underlying51 rfl (by rw [info51]; simp [hi])
  rw [results_cell_tmp h, hp]
  have ha : (asAddr (.pointer (some ⟨g, 0, none⟩))).run Try.prog w = .ok ⟨g, 0, none⟩ w := rfl
  rw [ha, Result.andThen_ok, hl, Result.andThen_ok]
/-- A side that came in, and the block of the one that goes out. -/
theorem side_in (w : World) (cs : List Value) : ∃ X, X = (w.alloc (.cells cs.toArray 51)).alloc (.cells #[.slice none 0 0, .int .i64 0, .int .i64 0, .int .i64 0, .int .i64 0, .bool false, .int .i64 0, .int .i64 0, .bool false, .bool false, .int .i64 0, .bool false, .int .i64 0, .bool false, .bool false, .bool false, .bool false, .bool false] 51) ∧ Blk X w.heap.size cs 51 ∧ Blk X (w.heap.size + 1) side0 51 ∧ Below w.heap.size w X := by
  refine ⟨_, rfl, Blk.alloc (Blk.new w cs 51) _, ?_, ((Below.refl _ _).alloc (Nat.le_refl _) _).alloc (by simp) _⟩
  have := Blk.new (w.alloc (.cells cs.toArray 51)) side0 51
  rw [World.size_alloc] at this
  exact this
theorem blk_same {w : World} {g : Nat} {cs ds : List Value} {T : TypeId} (h : Blk w g cs T) (e : cs = ds) : Blk w g ds T := e ▸ h
/-- A load and a store of a whole side. -/
theorem wpList_side_load {ops : Array Oper} {rest : List Oper} {o : Oper} {a : Act} {w : World} {Q : Exit → Act → World → Prop} (hgd : o.guard = none) (x : Operand) (ho : o.op = .load 51 x)
    (g : Nat) (hx : a.eval x = .pointer (some ⟨g, 0, none⟩)) (cs : List Value) (hg : Blk w g cs 51) (hl : cs.length = 18)
    (h : wpList Try.prog ops Q rest (a.put o.dst (.agg cs.toArray)) w) : wpList Try.prog ops Q (o :: rest) a w :=
  wpList_load_row hgd 51 x ho g hx 51 cs.toArray (0, 0) _ hg Try.underlying51 rfl (by rw [info51]; simp [hl]) h
theorem wpList_side_store {ops : Array Oper} {rest : List Oper} {o : Oper} {a : Act} {w : World} {Q : Exit → Act → World → Prop} (hgd : o.guard = none) (x y : Operand) (ho : o.op = .store 51 x y)
    (g : Nat) (cs old : List Value) (hx : a.eval x = .pointer (some ⟨g, 0, none⟩)) (hy : a.eval y = .agg cs.toArray) (hg : Blk w g old 51) (hl : cs.length = 18) (hlo : old.length = 18) (h1 : cs.toArray.all (·.oneCell') = true)
    (h : wpList Try.prog ops Q rest (a.put o.dst undef) (w.setRow g cs.toArray)) : wpList Try.prog ops Q (o :: rest) a w :=
  wpList_store_row hgd 51 x y ho g cs.toArray hx hy 51 old.toArray hg (by rw [info51]; simp [hl]) (by simp [hl, hlo]) h1 h
set_option maxRecDepth 100000 in
theorem rsend (a : Option Addr) (n c : Nat) (sent first most oct : Int) (t : SdT) (w : World) (h0 : 0 ≤ sent) (hn : n ≤ 1000) :
    Calls Try.prog 29 #[.agg (sdc (.slice a n c) sent first most oct t).toArray] w fun e w' => e = .returned (.tuple #[.agg (sdc (.slice a n c) (if (n : Int) ≤ sent then sent else if 127 ≤ sent then sent else sent + 1) first most oct t).toArray, .int .i64 (if (n : Int) ≤ sent then 2 else if 127 ≤ sent then 3 else 0)]) ∧ Below w.heap.size w w' := by
  obtain ⟨X, hX, hS, hR, hb⟩ := side_in w (sdc (.slice a n c) sent first most oct t)
  have c0 := hS.cell 0 rfl
  have c1 := hS.cell 1 rfl
  by_cases h1 : (n : Int) ≤ sent
  · rw [if_pos h1, if_pos h1]
    go_enter Try.func29, Try.ntmps29
    go_upto_region 1 with fail
    rw [← hX]
    clear hX
    go_wp2_with (first | (refine wpList_side_load rfl (.tmp 1) rfl w.heap.size rfl _ hS rfl ?_) | (refine wpList_side_store rfl (.tmp 2) (.tmp 10) rfl (w.heap.size + 1) _ _ rfl rfl hR rfl rfl (sdc_one _ _ _ _ _ _ _ _) ?_))
    refine bodyPost_ret (res_row Try.results29 (by rfl) (Blk.row hR _) rfl) rfl ⟨rfl, ?_⟩
    exact below_row hb (by omega) _
  · rw [if_neg h1, if_neg h1]
    by_cases h2 : 127 ≤ sent
    · rw [if_pos h2, if_pos h2]
      go_enter Try.func29, Try.ntmps29
      go_upto_region 1 with fail
      rw [← hX]
      clear hX
      go_wp2_with (first | (refine wpList_side_load rfl (.tmp 1) rfl w.heap.size rfl _ hS rfl ?_) | (refine wpList_side_store rfl (.tmp 2) (.tmp 14) rfl (w.heap.size + 1) _ _ rfl rfl hR rfl rfl (sdc_one _ _ _ _ _ _ _ _) ?_))
      refine bodyPost_ret (res_row Try.results29 (by rfl) (Blk.row hR _) rfl) rfl ⟨rfl, ?_⟩
      exact below_row hb (by omega) _
    · rw [if_neg h2, if_neg h2]
      go_enter Try.func29, Try.ntmps29
      go_upto_region 1 with fail
      rw [← hX]
      clear hX
      have hw : IntKind.i64.wrap (sent + 1) = sent + 1 := wrapH _ (by omega)
      have f1 := hS.frozen 1
      have hS1 : Blk (X.setCell ⟨w.heap.size, 1, none⟩ (.int .i64 (sent + 1))) w.heap.size (sdc (.slice a n c) (sent + 1) first most oct t) 51 := (hS.set 1 (.int .i64 (sent + 1))).as rfl
      have hR1 : Blk (X.setCell ⟨w.heap.size, 1, none⟩ (.int .i64 (sent + 1))) (w.heap.size + 1) side0 51 := hR.other (by show w.heap.size + 1 ≠ w.heap.size; omega) _
      have hb1 : Below w.heap.size w (X.setCell ⟨w.heap.size, 1, none⟩ (.int .i64 (sent + 1))) := hb.setCell (p := ⟨w.heap.size, 1, none⟩) (Nat.le_refl _) _
      go_wp2_with (first | (refine wpList_side_load rfl (.tmp 1) rfl w.heap.size rfl _ hS1 rfl ?_) | (refine wpList_side_store rfl (.tmp 2) (.tmp 19) rfl (w.heap.size + 1) _ _ rfl rfl hR1 rfl rfl (sdc_one _ _ _ _ _ _ _ _) ?_))
      refine bodyPost_ret (res_row Try.results29 (by rfl) (Blk.row hR1 _) rfl) rfl ⟨rfl, ?_⟩
      exact below_row hb1 (by omega) _
set_option maxRecDepth 100000 in
theorem rnumber (a : Option Addr) (n c : Nat) (sent first most oct : Int) (t : SdT) (i : Int) (w : World) (h0 : 0 ≤ first + i + 128) (h1 : first + i ≤ 100000) (hi : -200 ≤ i ∧ i ≤ 5000) (hf : 0 ≤ first ∧ first ≤ 127) :
    Calls Try.prog 30 #[.agg (sdc (.slice a n c) sent first most oct t).toArray, .int .i64 i] w fun e w' => e = .returned (.int .i64 ((first + i) % 128)) ∧ Below w.heap.size w w' := by
  have hS := Blk.new w (sdc (.slice a n c) sent first most oct t) 51
  have hb : Below w.heap.size w (w.alloc (.cells (sdc (.slice a n c) sent first most oct t).toArray 51)) := (Below.refl _ _).alloc (Nat.le_refl _) _
  have c2 := hS.cell 2 rfl
  have hw1 : IntKind.i64.wrap (first + i) = first + i := wrapH _ (by omega)
  have hw2 : IntKind.i64.wrap (first + i + 128) = first + i + 128 := wrapH _ (by omega)
  have hw3 : (first + i + 128).tmod 128 = (first + i) % 128 := by rw [Int.tmod_eq_emod_of_nonneg h0]; omega
  go_enter Try.func30, Try.ntmps30
  go_upto_region 1 with fail
  generalize w.alloc (.cells (sdc (.slice a n c) sent first most oct t).toArray 51) = X at *
  go_wp2
  go_ret
  exact ⟨rfl, hb⟩
/-- How many that wait a number answers. -/
def behI (first sent n : Int) : Int := if n < 0 ∨ 127 < n then -1 else if sent < (n - first + 1) % 128 then -1 else (n - first + 1) % 128
set_option maxRecDepth 100000 in
theorem rbehind (a : Option Addr) (n c : Nat) (sent first most oct : Int) (t : SdT) (i : Int) (w : World) (hi : -1000 ≤ i ∧ i ≤ 1000) (hf : 0 ≤ first ∧ first ≤ 127) :
    Calls Try.prog 79 #[.agg (sdc (.slice a n c) sent first most oct t).toArray, .int .i64 i] w fun e w' => e = .returned (.int .i64 (behI first sent i)) ∧ Below w.heap.size w w' := by
  have hS := Blk.new w (sdc (.slice a n c) sent first most oct t) 51
  have hb : Below w.heap.size w (w.alloc (.cells (sdc (.slice a n c) sent first most oct t).toArray 51)) := (Below.refl _ _).alloc (Nat.le_refl _) _
  have c1 := hS.cell 1 rfl
  have c2 := hS.cell 2 rfl
  unfold behI
  by_cases h : i < 0 ∨ 127 < i
  · rw [if_pos h]
    go_enter Try.func79, Try.ntmps79
    go_upto_region 1 with fail
    generalize w.alloc (.cells (sdc (.slice a n c) sent first most oct t).toArray 51) = X at *
    by_cases h1 : i < 0
    · go_wp2
      go_ret
      exact ⟨rfl, hb⟩
    · have h2 : (127 : Int) < i := by omega
      go_wp2
      go_ret
      exact ⟨rfl, hb⟩
  · rw [if_neg h]
    have h1 : ¬ i < 0 := fun e => h (.inl e)
    have h2 : ¬ (127 : Int) < i := fun e => h (.inr e)
    have hw1 : IntKind.i64.wrap (i - first) = i - first := wrapH _ (by omega)
    have hw2 : IntKind.i64.wrap (i - first + 1) = i - first + 1 := wrapH _ (by omega)
    have hw3 : IntKind.i64.wrap (i - first + 1 + 256) = i - first + 1 + 256 := wrapH _ (by omega)
    have hw4 : (i - first + 1 + 256).tmod 128 = (i - first + 1) % 128 := by rw [Int.tmod_eq_emod_of_nonneg (by omega)]; omega
    generalize (i - first + 1) % 128 = k at *
    by_cases h3 : sent < k
    · rw [if_pos h3]
      go_enter Try.func79, Try.ntmps79
      go_upto_region 1 with fail
      generalize w.alloc (.cells (sdc (.slice a n c) sent first most oct t).toArray 51) = X at *
      go_wp2
      go_ret
      exact ⟨rfl, hb⟩
    · rw [if_neg h3]
      go_enter Try.func79, Try.ntmps79
      go_upto_region 1 with fail
      generalize w.alloc (.cells (sdc (.slice a n c) sent first most oct t).toArray 51) = X at *
      go_wp2
      go_ret
      exact ⟨rfl, hb⟩
/-- The reference's row of messages: whose octets came in. -/
def RR (W w : World) (vL : Value) (L : List (List Int)) : Prop := ∃ vs, SS w 0 33 vL vs ∧ vs.length = L.length ∧ ∀ (i : Nat) (x : List Int), L[i]? = some x → ∃ v, vs[i]? = some v ∧ Oct W v x
theorem RR.nil (W w : World) : RR W w (.slice none 0 0) [] := ⟨[], SS.nil _ _ _, rfl, fun i x h => by simp at h⟩
theorem RR.below {W w w' : World} {vL : Value} {L : List (List Int)} (h : RR W w vL L) (hb : Below w.heap.size w w') : RR W w' vL L := by
  obtain ⟨vs, h1, h2, h3⟩ := h
  exact ⟨vs, h1.fr (S := fun _ => False) (.of_below hb) (fun _ _ h => h), h2, h3⟩
theorem RR.fr {S : Nat → Prop} {W w w' : World} {vL : Value} {L : List (List Int)} (h : RR W w vL L) (hF : Fr S w w') (hS : ∀ g, vL.ownBlock = some g → ¬ S g) : RR W w' vL L := by
  obtain ⟨vs, h1, h2, h3⟩ := h
  exact ⟨vs, h1.fr hF hS, h2, h3⟩
theorem SS.shape2 {w : World} {base : Nat} {e : TypeId} {v : Value} {vs : List Value} (h : SS w base e v vs) : ∃ a c, v = .slice a vs.length c ∧ vs.length ≤ c ∧ c ≤ maxLen := by
  rcases h with ⟨rfl, rfl⟩ | ⟨g, o, cap, cs, rfl, _, _, h1, h2, _⟩
  · exact ⟨none, 0, rfl, Nat.le_refl _, Nat.zero_le _⟩
  · exact ⟨_, _, rfl, h1, h2⟩
theorem RR.shape {W w : World} {vL : Value} {L : List (List Int)} (h : RR W w vL L) : ∃ a c, vL = .slice a L.length c := by
  obtain ⟨vs, h1, h2, h3⟩ := h
  obtain ⟨a, c, e, -⟩ := h1.shape2
  exact ⟨a, c, by rw [e, h2]⟩
theorem SS.take {w : World} {base : Nat} {e : TypeId} {a : Option Addr} {n c : Nat} {vs : List Value} (h : SS w base e (.slice a n c) vs) (k : Nat) (hk : k ≤ vs.length) : SS w base e (.slice a k c) (vs.take k) := by
  rcases h with ⟨h, rfl⟩ | ⟨g, o, cap, cs, h0, hb, hB, h1, h2, h3, h4⟩
  · simp only [Value.slice.injEq] at h
    obtain ⟨rfl, rfl, rfl⟩ := h
    have : k = 0 := by simpa using hk
    subst this
    exact .inl ⟨rfl, rfl⟩
  · simp only [Value.slice.injEq] at h0
    obtain ⟨rfl, rfl, rfl⟩ := h0
    have hl : (vs.take k).length = k := by rw [List.length_take]; omega
    refine .inr ⟨g, o, c, cs, by rw [hl], hb, hB, by omega, h2, h3, fun i hi => ?_⟩
    rw [h4 i (by omega), List.getElem?_take, if_pos (by omega)]
theorem SS.dropk {w : World} {base g o n c : Nat} {e : TypeId} {vs : List Value} (h : SS w base e (.slice (some ⟨g, o, none⟩) n c) vs) (k : Nat) (hk : k ≤ vs.length) : SS w base e (.slice (some ⟨g, if c = k then o else o + k, none⟩) (n - k) (c - k)) (vs.drop k) := by
  rcases h with ⟨h, _⟩ | ⟨g', o', cap', cs, h0, hb, hB, h1, h2, h3, h4⟩
  · cases h
  · simp only [Value.slice.injEq, Option.some.injEq, Addr.mk.injEq] at h0
    obtain ⟨⟨rfl, rfl, _⟩, rfl, rfl⟩ := h0
    refine .inr ⟨g, if c = k then o else o + k, c - k, cs, by rw [List.length_drop], hb, hB, by rw [List.length_drop]; omega, by omega, by split <;> omega, fun i hi => ?_⟩
    rw [List.length_drop] at hi
    rw [if_neg (by omega), List.getElem?_drop, show o + k + i = o + (k + i) from by omega, h4 (k + i) (by omega)]
theorem RR.take {W w : World} {a : Option Addr} {n c : Nat} {L : List (List Int)} (h : RR W w (.slice a n c) L) (k : Nat) (hk : k ≤ L.length) : RR W w (.slice a k c) (L.take k) := by
  obtain ⟨vs, h1, h2, h3⟩ := h
  refine ⟨vs.take k, h1.take k (by omega), by simp [h2], fun i x hx => ?_⟩
  rw [List.getElem?_take] at hx ⊢
  split at hx
  · rename_i hik
    rw [if_pos hik]
    exact h3 i x hx
  · cases hx
theorem RR.dropk {W w : World} {g o n c : Nat} {L : List (List Int)} (h : RR W w (.slice (some ⟨g, o, none⟩) n c) L) (k : Nat) (hk : k ≤ L.length) : RR W w (.slice (some ⟨g, if c = k then o else o + k, none⟩) (n - k) (c - k)) (L.drop k) := by
  obtain ⟨vs, h1, h2, h3⟩ := h
  refine ⟨vs.drop k, h1.dropk k (by omega), by simp [h2], fun i x hx => ?_⟩
  rw [List.getElem?_drop] at hx ⊢
  exact h3 _ x hx
/-- How many octets. -/
theorem rsize {W w : World} {vL : Value} {L : List (List Int)} (h : RR W w vL L) (hb : L.length ≤ 1000) (h3 : ∀ x ∈ L, x.length ≤ 300) :
    Calls Try.prog 77 #[vL] w fun e w' => e = .returned (.int .i64 (octs L)) ∧ w' = w := by
  obtain ⟨vs, hS, hl, hm⟩ := h
  rcases hS with ⟨rfl, rfl⟩ | ⟨g, o, cap, cs, rfl, hbg, hB, h1, h2, h4, h5⟩
  · obtain rfl : L = [] := List.eq_nil_of_length_eq_zero (by simpa using hl.symm)
    go_enter Try.func77, Try.ntmps77
    go_wp2
    go_loop [3, 4] (fun n i => n = .int .i64 0 ∧ i = .int .i64 0) (fun _ _ => 0)
    case atStart => exact ⟨rfl, rfl⟩
    case round =>
      obtain ⟨rfl, rfl⟩ := hrel
      go_wp2
      go_ret
      exact ⟨rfl, rfl⟩
  · have hcell : ∀ i x, L[i]? = some x → ∃ a c, w.cell? ⟨g, o + i, none⟩ = some (.slice a x.length c) := fun i x hx => by
      obtain ⟨v, hv, a, c, rfl, -⟩ := hm i x hx
      have hi : i < vs.length := (List.getElem?_eq_some_iff.1 hv).1
      exact ⟨a, c, hB.cell (o + i) (by rw [h5 i hi]; exact hv)⟩
    have HC := Lib.hid hcell
    have H3 := Lib.hid h3
    rw [hl]
    obtain ⟨n, hn⟩ : ∃ n, L.length = n := ⟨_, rfl⟩
    rw [hn] at hb ⊢
    have HL := Lib.hid hn
    clear hcell hm h5 hB h1 h4 h3 hl hn
    go_enter Try.func77, Try.ntmps77
    go_wp2
    go_loop [3, 4] (fun s i => ∃ k : Nat, k ≤ n ∧ i = .int .i64 k ∧ s = .int .i64 (octs (L.take k))) (fun _ i => n - (intOf i).toNat)
    case atStart => exact ⟨0, by omega, rfl, rfl⟩
    case round =>
      obtain ⟨k, hk, rfl, rfl⟩ := hrel
      by_cases hlt : k < n
      · obtain ⟨x, hx⟩ : ∃ x, L[k]? = some x := ⟨_, List.getElem?_eq_getElem (by rw [HL.out]; exact hlt)⟩
        obtain ⟨g', c', hc⟩ := HC.out k x hx
        have hs := octs_snoc (L.take k) x
        rw [← take_snoc L k x hx] at hs
        have hbd := octs_bd (L.take k) (fun y hy => H3.out y (List.mem_of_mem_take hy))
        have hx3 := H3.out x (List.mem_of_getElem? hx)
        have hlen : (L.take k).length ≤ 1000 := by rw [List.length_take]; omega
        have hw : IntKind.i64.wrap (octs (L.take k) + x.length) = octs (L.take k) + x.length := wrapH _ (by omega)
        have hw2 : IntKind.i64.wrap ((k : Int) + 1) = ((k + 1 : Nat) : Int) := by rw [wrapH _ (by omega)]; omega
        have hs := Lib.hid hs
        generalize octs (L.take k) = q at *
        clear hx hbd hlen
        go_wp2
        exact ⟨⟨k + 1, by omega, rfl, by rw [hs.out]⟩, by simp [intOf]; omega⟩
      · have hkn : k = n := by omega
        have hfin : L.take k = L := by rw [hkn, ← HL.out, List.take_length]
        rw [hfin]
        subst hkn
        go_wp2
        go_ret
        exact ⟨rfl, rfl⟩
end Go.Proofs.Ytadheikcgdhcdaa
