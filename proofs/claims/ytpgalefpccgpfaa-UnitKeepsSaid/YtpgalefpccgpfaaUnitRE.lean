/-
  Units: the document's own encoding.
-/
import Derived.ArgAppend
import Derived.Deep.AppendLies
import Derived.Test.YtpgalefpccgpfaaUnitDA
namespace Go.Proofs.Ytpgalefpccgpfaa
open Go.RowKit
set_option linter.unusedVariables false
set_option linter.unusedSimpArgs false

theorem wp_append_own {w : World} {ops : Array Oper} {rest : List Oper} {o : Oper} {a : Act} {Q : Exit → Act → World → Prop} (hg : o.guard = none) (s x : Operand)
    (hop : o.op = Op.call { callee := Callee.builtin Builtin.append, args := #[s, x], argTypes := #[22, 22] })
    (q : Nat) (hs : a.eval s = .slice (some ⟨q, 0, none⟩) 3 3) (cs : Array Value) (hB0 : w.heap[q]? = some (.cells cs 5 (0, 0))) (hlo : cs.toList.length = 3)
    (ad : Addr) (m c : Nat) (news : List Value) (hx : a.eval x = .slice (some ad) m c) (hm0 : 0 < m) (hm : m ≤ 400) (hn : news.length = m * 1) (hc : ∀ j u, news[j]? = some u → w.cell? (ad.add j) = some u) (h1 : ∀ u ∈ news, u.oneCell' = true)
    (hK : ∀ v' w', w'.ownsRow w.heap.size 5 1 v' (3 + m) (cs.toList ++ news) → w.grownBy w' none → wpList Try.prog ops Q rest (a.put o.dst v') w') :
    wpList Try.prog ops Q (o :: rest) a w := by
  have hB : Blk w q cs.toList 5 := by unfold Blk; simpa using hB0
  obtain ⟨i0, hi, hz0, hz1, hz2⟩ := info_parts info5
  exact wpList_append_grows w hg s x 22 hop 5 i0 (.int .u8 0) 1 1 Try.underlying22 hi hz0 hz1 hz2 rfl (by decide) (some ⟨q, 0, none⟩) 3 3 cs.toList hs (fun h => by cases h) (by omega)
    (fun b e j u hj => by cases e; rw [Addr.add_lit, Nat.zero_add]; exact hB.cell j hj) ad m c news hx hn hc h1 (by omega) (by unfold maxLen; omega) (by omega) hK
/-- Appended to nothing. -/
theorem wp_append_nil {w : World} {ops : Array Oper} {rest : List Oper} {o : Oper} {a : Act} {Q : Exit → Act → World → Prop} (hg : o.guard = none) (s x : Operand)
    (hop : o.op = Op.call { callee := Callee.builtin Builtin.append, args := #[s, x], argTypes := #[22, 22] }) (hs : a.eval s = .slice none 0 0)
    (ad : Addr) (m c : Nat) (news : List Value) (hx : a.eval x = .slice (some ad) m c) (hm0 : 0 < m) (hm : m ≤ 400) (hn : news.length = m * 1) (hc : ∀ j u, news[j]? = some u → w.cell? (ad.add j) = some u) (h1 : ∀ u ∈ news, u.oneCell' = true)
    (hK : ∀ g c' w', w'.ownsRow w.heap.size 5 1 (.slice (some ⟨g, 0, none⟩) m c') m news → w.grownBy w' none → wpList Try.prog ops Q rest (a.put o.dst (.slice (some ⟨g, 0, none⟩) m c')) w') :
    wpList Try.prog ops Q (o :: rest) a w := by
  obtain ⟨i0, hi, hz0, hz1, hz2⟩ := info_parts info5
  refine wpList_append_grows w hg s x 22 hop 5 i0 (.int .u8 0) 1 1 Try.underlying22 hi hz0 hz1 hz2 rfl (by decide) none 0 0 [] hs (fun _ => ⟨rfl, rfl⟩) rfl
    (fun b hb j u hj => by cases hj) ad m c news hx hn hc h1 (by omega) (by unfold maxLen; omega) (by omega) ?_
  intro v' w' h1 h2
  rw [Nat.zero_add, List.nil_append] at h1
  obtain ⟨g, c', rfl, -, -⟩ := h1.form hm0
  exact hK g c' w' h1 h2
/-- Appended to a row of one's own. -/
theorem wp_append_more {w : World} {ops : Array Oper} {rest : List Oper} {o : Oper} {a : Act} {Q : Exit → Act → World → Prop} (hg : o.guard = none) (s x : Operand)
    (hop : o.op = Op.call { callee := Callee.builtin Builtin.append, args := #[s, x], argTypes := #[22, 22] }) (base : Nat) (hbase : base ≤ w.heap.size) (g0 n0 c0 : Nat) (olds : List Value) (hs : a.eval s = .slice (some ⟨g0, 0, none⟩) n0 c0)
    (hown : w.ownsRow base 5 1 (.slice (some ⟨g0, 0, none⟩) n0 c0) n0 olds)
    (ad : Addr) (m c : Nat) (news : List Value) (hx : a.eval x = .slice (some ad) m c) (hm0 : 0 < m) (hm : n0 + m ≤ 400) (hn : news.length = m * 1) (hc : ∀ j u, news[j]? = some u → w.cell? (ad.add j) = some u) (h1 : ∀ u ∈ news, u.oneCell' = true)
    (hK : ∀ g c' w', w'.ownsRow base 5 1 (.slice (some ⟨g, 0, none⟩) (n0 + m) c') (n0 + m) (olds ++ news) → w.grownBy w' (some g0) → wpList Try.prog ops Q rest (a.put o.dst (.slice (some ⟨g, 0, none⟩) (n0 + m) c')) w') :
    wpList Try.prog ops Q (o :: rest) a w := by
  obtain ⟨i0, hi, hz0, hz1, hz2⟩ := info_parts info5
  exact wpList_append_lies w hg s x 22 hop base 5 i0 (.int .u8 0) 1 1 Try.underlying22 hi hz0 hz1 hz2 rfl (by decide) _ n0 olds hs hown ad m c news hx hn hc h1 hm0 (by unfold maxLen; omega) (by omega) hbase _ rfl (fun g c' w' h2 h3 _ _ => hK g c' w' h2 h3)

theorem grown_all {w w' : World} (h : w.grownBy w' none) : Below w.heap.size w w' := grown_below h (Below.refl _ _)

def encZ (b f : Int) (bi fi : Bool) (ys : List Int) : List Int := [(if bi then b + 128 else b), (if fi then f + 128 else f), (if 63 < ys.length then 63 else (ys.length : Int))] ++ ys
def bodyZ (k s : Int) (wd : Bool) (zs : List Int) : List Int := if k = 1 then (if wd then [s, 0] else [s]) else if k = 2 then zs else []
def REnc (w : World) (b f : Int) (bi fi : Bool) (ys : List Int) (e : Ending) (w' : World) : Prop := ∃ g c, e = .returned (.slice (some ⟨g, 0, none⟩) (3 + ys.length) c) ∧ Below w.heap.size w w' ∧ 3 + ys.length ≤ c ∧ w.heap.size ≤ g ∧ Row w' (some ⟨g, 0, none⟩) (3 + ys.length) (encZ b f bi fi ys)

theorem own_cap {w : World} {base g n c : Nat} {xs : List Value} (h : w.ownsRow base 5 1 (.slice (some ⟨g, 0, none⟩) n c) n xs) : n ≤ c := by
  obtain ⟨_, hh | ⟨g', c', _, he, _, _, hh, _⟩⟩ := h
  · cases hh.1
  · cases he; exact hh
theorem encZ_ok {b f : Int} (hb : 0 ≤ b ∧ b ≤ 127) (hf : 0 ≤ f ∧ f ≤ 127) (bi fi : Bool) {ys : List Int} (h : ∀ z ∈ ys, 0 ≤ z ∧ z < 256) : ∀ z ∈ encZ b f bi fi ys, 0 ≤ z ∧ z < 256 := by
  intro z hz
  simp only [encZ, List.cons_append, List.nil_append, List.mem_cons] at hz
  rcases hz with rfl | rfl | rfl | hz
  · split <;> omega
  · split <;> omega
  · split <;> omega
  · exact h z hz
theorem renc_close {w W w3 : World} {b f : Int} {bi fi : Bool} {cs : Array Value} {ys : List Int} {v' : Value} (hb : 0 ≤ b ∧ b ≤ 127) (hf : 0 ≤ f ∧ f ≤ 127) (h : ∀ z ∈ ys, 0 ≤ z ∧ z < 256) (hown : w3.ownsRow W.heap.size 5 1 v' (3 + ys.length) (cs.toList ++ ys.map (Value.int .u8))) (hgrow : W.grownBy w3 none) (hB : Below w.heap.size w W)
    (hcs : cs.toList = [.int .u8 (if bi then b + 128 else b), .int .u8 (if fi then f + 128 else f), .int .u8 (if 63 < ys.length then 63 else (ys.length : Int))]) : REnc w b f bi fi ys (.returned v') w3 := by
  obtain ⟨g, c, rfl, hg, -⟩ := hown.form (by omega)
  refine ⟨g, c, rfl, grown_below hgrow hB, own_cap hown, Nat.le_trans hB.size hg, ?_⟩
  rw [hcs] at hown
  exact own_row (zs := encZ b f bi fi ys) hown (encZ_ok hb hf bi fi h)

theorem renc_fill_ff (b f : Int) (hb0 : 0 ≤ b) (hb1 : b ≤ 127) (hf0 : 0 ≤ f) (hf1 : f ≤ 127) (k s : Int) (h1 : k ≠ 1) (h2 : k ≠ 2) (wd : Bool) (a : Option Addr) (len cap : Nat) (w : World) : Calls Try.prog 18 #[.agg #[.int .u8 b, .int .u8 f, .bool false, .bool false, .int .u8 k, .int .u8 s, .bool wd, .slice a len cap]] w (REnc w b f false false []) := by
  have e1 : (k == 1) = false := by simp [h1]
  have e2 : (k == 2) = false := by simp [h2]
  go_enter Try.func18, Try.ntmps18
  go_wp2
  go_ret
  refine ⟨_, _, rfl, ((Below.refl _ _).alloc (Nat.le_refl _) _).alloc (by simp) _, by decide, by omega, ?_⟩
  refine own_row (c := 3) (base := w.heap.size) (zs := encZ b f false false []) ?_ (encZ_ok ⟨hb0, hb1⟩ ⟨hf0, hf1⟩ _ _ (by simp))
  simpa [encZ] using World.ownsRow_lit (size := 1) (e := 5) (base := w.heap.size) (w.alloc (.cells #[.int .u8 b, .int .u8 f, .bool false, .bool false, .int .u8 k, .int .u8 s, .bool wd, .slice a len cap] 24)) #[.int .u8 (b), .int .u8 (f), .int .u8 0] 3 (by simp) (by decide) (by rfl)
theorem renc_fill_ft (b f : Int) (hb0 : 0 ≤ b) (hb1 : b ≤ 127) (hf0 : 0 ≤ f) (hf1 : f ≤ 127) (k s : Int) (h1 : k ≠ 1) (h2 : k ≠ 2) (wd : Bool) (a : Option Addr) (len cap : Nat) (w : World) : Calls Try.prog 18 #[.agg #[.int .u8 b, .int .u8 f, .bool false, .bool true, .int .u8 k, .int .u8 s, .bool wd, .slice a len cap]] w (REnc w b f false true []) := by
  have e1 : (k == 1) = false := by simp [h1]
  have e2 : (k == 2) = false := by simp [h2]
  go_enter Try.func18, Try.ntmps18
  go_wp2
  go_ret
  refine ⟨_, _, rfl, ((Below.refl _ _).alloc (Nat.le_refl _) _).alloc (by simp) _, by decide, by omega, ?_⟩
  refine own_row (c := 3) (base := w.heap.size) (zs := encZ b f false true []) ?_ (encZ_ok ⟨hb0, hb1⟩ ⟨hf0, hf1⟩ _ _ (by simp))
  simpa [encZ] using World.ownsRow_lit (size := 1) (e := 5) (base := w.heap.size) (w.alloc (.cells #[.int .u8 b, .int .u8 f, .bool false, .bool true, .int .u8 k, .int .u8 s, .bool wd, .slice a len cap] 24)) #[.int .u8 (b), .int .u8 (f + 128), .int .u8 0] 3 (by simp) (by decide) (by rfl)
theorem renc_fill_tf (b f : Int) (hb0 : 0 ≤ b) (hb1 : b ≤ 127) (hf0 : 0 ≤ f) (hf1 : f ≤ 127) (k s : Int) (h1 : k ≠ 1) (h2 : k ≠ 2) (wd : Bool) (a : Option Addr) (len cap : Nat) (w : World) : Calls Try.prog 18 #[.agg #[.int .u8 b, .int .u8 f, .bool true, .bool false, .int .u8 k, .int .u8 s, .bool wd, .slice a len cap]] w (REnc w b f true false []) := by
  have e1 : (k == 1) = false := by simp [h1]
  have e2 : (k == 2) = false := by simp [h2]
  go_enter Try.func18, Try.ntmps18
  go_wp2
  go_ret
  refine ⟨_, _, rfl, ((Below.refl _ _).alloc (Nat.le_refl _) _).alloc (by simp) _, by decide, by omega, ?_⟩
  refine own_row (c := 3) (base := w.heap.size) (zs := encZ b f true false []) ?_ (encZ_ok ⟨hb0, hb1⟩ ⟨hf0, hf1⟩ _ _ (by simp))
  simpa [encZ] using World.ownsRow_lit (size := 1) (e := 5) (base := w.heap.size) (w.alloc (.cells #[.int .u8 b, .int .u8 f, .bool true, .bool false, .int .u8 k, .int .u8 s, .bool wd, .slice a len cap] 24)) #[.int .u8 (b + 128), .int .u8 (f), .int .u8 0] 3 (by simp) (by decide) (by rfl)
theorem renc_fill_tt (b f : Int) (hb0 : 0 ≤ b) (hb1 : b ≤ 127) (hf0 : 0 ≤ f) (hf1 : f ≤ 127) (k s : Int) (h1 : k ≠ 1) (h2 : k ≠ 2) (wd : Bool) (a : Option Addr) (len cap : Nat) (w : World) : Calls Try.prog 18 #[.agg #[.int .u8 b, .int .u8 f, .bool true, .bool true, .int .u8 k, .int .u8 s, .bool wd, .slice a len cap]] w (REnc w b f true true []) := by
  have e1 : (k == 1) = false := by simp [h1]
  have e2 : (k == 2) = false := by simp [h2]
  go_enter Try.func18, Try.ntmps18
  go_wp2
  go_ret
  refine ⟨_, _, rfl, ((Below.refl _ _).alloc (Nat.le_refl _) _).alloc (by simp) _, by decide, by omega, ?_⟩
  refine own_row (c := 3) (base := w.heap.size) (zs := encZ b f true true []) ?_ (encZ_ok ⟨hb0, hb1⟩ ⟨hf0, hf1⟩ _ _ (by simp))
  simpa [encZ] using World.ownsRow_lit (size := 1) (e := 5) (base := w.heap.size) (w.alloc (.cells #[.int .u8 b, .int .u8 f, .bool true, .bool true, .int .u8 k, .int .u8 s, .bool wd, .slice a len cap] 24)) #[.int .u8 (b + 128), .int .u8 (f + 128), .int .u8 0] 3 (by simp) (by decide) (by rfl)
set_option maxHeartbeats 1000000 in
theorem renc_link_fff (b f : Int) (hb0 : 0 ≤ b) (hb1 : b ≤ 127) (hf0 : 0 ≤ f) (hf1 : f ≤ 127) (s : Int) (hs0 : 0 ≤ s) (hs1 : s ≤ 7) (a : Option Addr) (len cap : Nat) (w : World) : Calls Try.prog 18 #[.agg #[.int .u8 b, .int .u8 f, .bool false, .bool false, .int .u8 1, .int .u8 s, .bool false, .slice a len cap]] w (REnc w b f false false [s]) := by
  have hq : ∀ j u, ([.int .u8 s] : List Value)[j]? = some u → ((w.alloc (.cells #[.int .u8 b, .int .u8 f, .bool false, .bool false, .int .u8 1, .int .u8 s, .bool false, .slice a len cap] 24)).alloc (.cells #[.int .u8 s] 5)).cell? (Addr.add ⟨w.heap.size + 1, 0, none⟩ j) = some u := fun j u hj => by
    have := (Blk.new (w.alloc (.cells #[.int .u8 b, .int .u8 f, .bool false, .bool false, .int .u8 1, .int .u8 s, .bool false, .slice a len cap] 24)) [.int .u8 s] 5).cell j hj
    simpa [Addr.add_lit] using this
  have hA : Below w.heap.size w ((w.alloc (.cells #[.int .u8 b, .int .u8 f, .bool false, .bool false, .int .u8 1, .int .u8 s, .bool false, .slice a len cap] 24)).alloc (.cells #[.int .u8 s] 5)) := ((Below.refl _ _).alloc (Nat.le_refl _) _).alloc (by simp) _
  have hK0 := (Blk.new w (#[.int .u8 b, .int .u8 f, .bool false, .bool false, .int .u8 1, .int .u8 s, .bool false, .slice a len cap]).toList 24).alloc (.cells #[.int .u8 s] 5)
  go_enter Try.func18, Try.ntmps18
  go_upto_region 10 with (refine wp_append_nil rfl (.tmp 22) (.tmp 25) rfl rfl ⟨w.heap.size + 1, 0, none⟩ 1 1 [.int .u8 s] rfl (by decide) (by decide) rfl hq (by simp [Value.oneCell']) ?_; intro g c w1 hown hgr)
  have hB0 := grown_below hgr hA
  have hK := hK0.below (grown_all hgr)
  have hgb : w.heap.size + 2 ≤ g := by
    obtain ⟨_, hh | ⟨g', _, _, he, hh, _⟩⟩ := hown
    · cases hh.1
    · cases he; simpa using hh
  have HO := Lib.hid hown
  clear hgr hA hK0 hq hown
  have c4 := hK.cell 4 rfl
  have c6 := hK.cell 6 rfl
  have hB1 := hB0
  have hE0 : ∀ cs : Array Value, (w1.alloc (.cells cs 5)).heap[w1.heap.size]? = some (.cells cs 5 (0, 0)) := fun cs => by
    show (w1.heap.push _)[w1.heap.size]? = _
    simp
  have hc1 : ∀ o, ∀ j u, ([.int .u8 s] : List Value)[j]? = some u → (w1.alloc o).cell? (Addr.add ⟨g, 0, none⟩ j) = some u := fun o j u hj => by
    have := HO.out.cells (g := g) rfl j u hj
    rw [World.cell?_alloc_lt _ _ _ (World.block_lt_of_cell? _ _ this)]; exact this
  go_upto_region 17 with fail
  go_wp2_with (refine wp_append_own rfl (.tmp 47) (.tmp 48) rfl _ rfl _ (hE0 _) rfl ⟨g, 0, none⟩ 1 c [.int .u8 s] rfl (by omega) (by omega) rfl (hc1 _) (by simp [Value.oneCell']) ?_; intro v' w3 hown3 hgr3)
  refine bodyPost_ret (v := v') (by simp [results, Try.results18, go_sem]) rfl ?_
  exact renc_close (ys := [s]) ⟨hb0, hb1⟩ ⟨hf0, hf1⟩ (by intro z hz; simp at hz; omega) hown3 hgr3 (hB1.alloc hB1.size _) (by simp [])
set_option maxHeartbeats 1000000 in
theorem renc_link_fft (b f : Int) (hb0 : 0 ≤ b) (hb1 : b ≤ 127) (hf0 : 0 ≤ f) (hf1 : f ≤ 127) (s : Int) (hs0 : 0 ≤ s) (hs1 : s ≤ 7) (a : Option Addr) (len cap : Nat) (w : World) : Calls Try.prog 18 #[.agg #[.int .u8 b, .int .u8 f, .bool false, .bool false, .int .u8 1, .int .u8 s, .bool true, .slice a len cap]] w (REnc w b f false false [s, 0]) := by
  have hq : ∀ j u, ([.int .u8 s] : List Value)[j]? = some u → ((w.alloc (.cells #[.int .u8 b, .int .u8 f, .bool false, .bool false, .int .u8 1, .int .u8 s, .bool true, .slice a len cap] 24)).alloc (.cells #[.int .u8 s] 5)).cell? (Addr.add ⟨w.heap.size + 1, 0, none⟩ j) = some u := fun j u hj => by
    have := (Blk.new (w.alloc (.cells #[.int .u8 b, .int .u8 f, .bool false, .bool false, .int .u8 1, .int .u8 s, .bool true, .slice a len cap] 24)) [.int .u8 s] 5).cell j hj
    simpa [Addr.add_lit] using this
  have hA : Below w.heap.size w ((w.alloc (.cells #[.int .u8 b, .int .u8 f, .bool false, .bool false, .int .u8 1, .int .u8 s, .bool true, .slice a len cap] 24)).alloc (.cells #[.int .u8 s] 5)) := ((Below.refl _ _).alloc (Nat.le_refl _) _).alloc (by simp) _
  have hK0 := (Blk.new w (#[.int .u8 b, .int .u8 f, .bool false, .bool false, .int .u8 1, .int .u8 s, .bool true, .slice a len cap]).toList 24).alloc (.cells #[.int .u8 s] 5)
  go_enter Try.func18, Try.ntmps18
  go_upto_region 10 with (refine wp_append_nil rfl (.tmp 22) (.tmp 25) rfl rfl ⟨w.heap.size + 1, 0, none⟩ 1 1 [.int .u8 s] rfl (by decide) (by decide) rfl hq (by simp [Value.oneCell']) ?_; intro g c w1 hown hgr)
  have hB0 := grown_below hgr hA
  have hK := hK0.below (grown_all hgr)
  have hgb : w.heap.size + 2 ≤ g := by
    obtain ⟨_, hh | ⟨g', _, _, he, hh, _⟩⟩ := hown
    · cases hh.1
    · cases he; simpa using hh
  have HO := Lib.hid hown
  clear hgr hA hK0 hq hown
  have c4 := hK.cell 4 rfl
  have c6 := hK.cell 6 rfl
  have hO2 := HO.out.alloc (.cells #[.int .u8 0] 5)
  have hBase : w.heap.size + 2 ≤ w1.heap.size := by have := hB0.size; have := HO.out.lt g rfl; omega
  have hbs : ((w.alloc (.cells #[.int .u8 b, .int .u8 f, .bool false, .bool false, .int .u8 1, .int .u8 s, .bool true, .slice a len cap] 24)).alloc (.cells #[.int .u8 s] 5)).heap.size ≤ (w1.alloc (.cells #[.int .u8 0] 5)).heap.size := by simp; omega
  have hq0 : ∀ j u, ([.int .u8 0] : List Value)[j]? = some u → (w1.alloc (.cells #[.int .u8 0] 5)).cell? (Addr.add ⟨w1.heap.size, 0, none⟩ j) = some u := fun j u hj => by
    have := (Blk.new w1 [.int .u8 0] 5).cell j hj
    simpa [Addr.add_lit] using this
  go_upto_region 12 with (refine wp_append_more rfl (.tmp 29) (.tmp 30) rfl _ hbs g 1 c [.int .u8 s] rfl hO2 ⟨w1.heap.size, 0, none⟩ 1 1 [.int .u8 0] rfl (by decide) (by decide) rfl hq0 (by simp [Value.oneCell']) ?_; intro g2 c2 w2 hown2 hgr2)
  have hF : Fr (fun k => k = g) w1 w2 := ((Fr.refl _ _).alloc _).grown hgr2 (fun k hk => .inl (by cases hk; rfl))
  have hB1 := hB0.trans (hF.below hB0.size (fun k hk => by rw [hk]; omega))
  have hK2 := hK.fr hF (by show ¬ (w.heap.size = g); omega)
  have HO2 := Lib.hid hown2
  clear c4 c6 hK hB0 hF hgr2 hown2 hO2 hbs hq0 HO
  have c4 := hK2.cell 4 rfl
  have hE0 : ∀ cs : Array Value, (w2.alloc (.cells cs 5)).heap[w2.heap.size]? = some (.cells cs 5 (0, 0)) := fun cs => by
    show (w2.heap.push _)[w2.heap.size]? = _
    simp
  have hc2 : ∀ o, ∀ j u, ([.int .u8 s, .int .u8 0] : List Value)[j]? = some u → (w2.alloc o).cell? (Addr.add ⟨g2, 0, none⟩ j) = some u := fun o j u hj => by
    have := HO2.out.cells (g := g2) rfl j u hj
    rw [World.cell?_alloc_lt _ _ _ (World.block_lt_of_cell? _ _ this)]; exact this
  go_upto_region 17 with fail
  go_wp2_with (refine wp_append_own rfl (.tmp 47) (.tmp 48) rfl _ rfl _ (hE0 _) rfl ⟨g2, 0, none⟩ 2 c2 [.int .u8 s, .int .u8 0] rfl (by omega) (by omega) rfl (hc2 _) (by simp [Value.oneCell']) ?_; intro v' w3 hown3 hgr3)
  refine bodyPost_ret (v := v') (by simp [results, Try.results18, go_sem]) rfl ?_
  exact renc_close (ys := [s, 0]) ⟨hb0, hb1⟩ ⟨hf0, hf1⟩ (by intro z hz; simp at hz; omega) hown3 hgr3 (hB1.alloc hB1.size _) (by simp [])
set_option maxHeartbeats 1000000 in
theorem renc_sig_ff0 (b f : Int) (hb0 : 0 ≤ b) (hb1 : b ≤ 127) (hf0 : 0 ≤ f) (hf1 : f ≤ 127) (s : Int) (wd : Bool) (a : Option Addr) (len cap : Nat) (zs : List Int) (w : World) (hl0 : 0 < len) (hl : len ≤ 300) (hk : ¬ (63 < len)) (hr : Row w a len zs) : Calls Try.prog 18 #[.agg #[.int .u8 b, .int .u8 f, .bool false, .bool false, .int .u8 2, .int .u8 s, .bool wd, .slice a len cap]] w (REnc w b f false false zs) := by
  obtain ⟨x, rfl, -⟩ := hr.2.2 0 hl0
  have hzs := hr.2.1
  have hlen := hr.1
  have gk : ¬ ((63 : Int) < len) := by omega
  have hA : Below w.heap.size w (w.alloc (.cells #[.int .u8 b, .int .u8 f, .bool false, .bool false, .int .u8 2, .int .u8 s, .bool wd, .slice (some x) len cap] 24)) := (Below.refl _ _).alloc (Nat.le_refl _) _
  have HP := Lib.hid (row_hc (hr.below hA))
  have HL : Hid ((zs.map (Value.int .u8)).length = len * 1) := by show _ = _; rw [List.length_map, hlen]; omega
  clear hr
  go_enter Try.func18, Try.ntmps18
  go_upto_region 14 with (refine wp_append_nil rfl (.tmp 35) (.tmp 37) rfl rfl x len cap (zs.map (.int .u8)) rfl hl0 (by omega) HL.out HP.out (map_one zs) ?_; intro g c w1 hown hgr)
  have hB1 := grown_below hgr hA
  have HO := Lib.hid hown
  have HZ := Lib.hid hzs
  clear hgr hA HP hown hzs
  have hE0 : ∀ cs : Array Value, (w1.alloc (.cells cs 5)).heap[w1.heap.size]? = some (.cells cs 5 (0, 0)) := fun cs => by
    show (w1.heap.push _)[w1.heap.size]? = _
    simp
  have hc1 : ∀ o, ∀ j u, (zs.map (Value.int .u8))[j]? = some u → (w1.alloc o).cell? (Addr.add ⟨g, 0, none⟩ j) = some u := fun o j u hj => by
    have := HO.out.cells (g := g) rfl j u hj
    rw [World.cell?_alloc_lt _ _ _ (World.block_lt_of_cell? _ _ this)]; exact this
  go_upto_region 17 with fail
  go_wp2_with (refine wp_append_own rfl (.tmp 47) (.tmp 48) rfl _ rfl _ (hE0 _) rfl ⟨g, 0, none⟩ len c (zs.map (.int .u8)) rfl (by omega) (by omega) HL.out (hc1 _) (map_one zs) ?_; intro v' w3 hown3 hgr3)
  refine bodyPost_ret (v := v') (by simp [results, Try.results18, go_sem]) rfl ?_
  exact renc_close (ys := zs) ⟨hb0, hb1⟩ ⟨hf0, hf1⟩ HZ.out (by rw [hlen]; exact hown3) hgr3 (hB1.alloc hB1.size _) (by simp [hlen, hk])
set_option maxHeartbeats 1000000 in
theorem renc_sig_ff1 (b f : Int) (hb0 : 0 ≤ b) (hb1 : b ≤ 127) (hf0 : 0 ≤ f) (hf1 : f ≤ 127) (s : Int) (wd : Bool) (a : Option Addr) (len cap : Nat) (zs : List Int) (w : World) (hl0 : 0 < len) (hl : len ≤ 300) (hk : 63 < len) (hr : Row w a len zs) : Calls Try.prog 18 #[.agg #[.int .u8 b, .int .u8 f, .bool false, .bool false, .int .u8 2, .int .u8 s, .bool wd, .slice a len cap]] w (REnc w b f false false zs) := by
  obtain ⟨x, rfl, -⟩ := hr.2.2 0 hl0
  have hzs := hr.2.1
  have hlen := hr.1
  have gk : (63 : Int) < len := by omega
  have hA : Below w.heap.size w (w.alloc (.cells #[.int .u8 b, .int .u8 f, .bool false, .bool false, .int .u8 2, .int .u8 s, .bool wd, .slice (some x) len cap] 24)) := (Below.refl _ _).alloc (Nat.le_refl _) _
  have HP := Lib.hid (row_hc (hr.below hA))
  have HL : Hid ((zs.map (Value.int .u8)).length = len * 1) := by show _ = _; rw [List.length_map, hlen]; omega
  clear hr
  go_enter Try.func18, Try.ntmps18
  go_upto_region 14 with (refine wp_append_nil rfl (.tmp 35) (.tmp 37) rfl rfl x len cap (zs.map (.int .u8)) rfl hl0 (by omega) HL.out HP.out (map_one zs) ?_; intro g c w1 hown hgr)
  have hB1 := grown_below hgr hA
  have HO := Lib.hid hown
  have HZ := Lib.hid hzs
  clear hgr hA HP hown hzs
  have hE0 : ∀ cs : Array Value, (w1.alloc (.cells cs 5)).heap[w1.heap.size]? = some (.cells cs 5 (0, 0)) := fun cs => by
    show (w1.heap.push _)[w1.heap.size]? = _
    simp
  have hc1 : ∀ o, ∀ j u, (zs.map (Value.int .u8))[j]? = some u → (w1.alloc o).cell? (Addr.add ⟨g, 0, none⟩ j) = some u := fun o j u hj => by
    have := HO.out.cells (g := g) rfl j u hj
    rw [World.cell?_alloc_lt _ _ _ (World.block_lt_of_cell? _ _ this)]; exact this
  go_upto_region 17 with fail
  go_wp2_with (refine wp_append_own rfl (.tmp 47) (.tmp 48) rfl _ rfl _ (hE0 _) rfl ⟨g, 0, none⟩ len c (zs.map (.int .u8)) rfl (by omega) (by omega) HL.out (hc1 _) (map_one zs) ?_; intro v' w3 hown3 hgr3)
  refine bodyPost_ret (v := v') (by simp [results, Try.results18, go_sem]) rfl ?_
  exact renc_close (ys := zs) ⟨hb0, hb1⟩ ⟨hf0, hf1⟩ HZ.out (by rw [hlen]; exact hown3) hgr3 (hB1.alloc hB1.size _) (by simp [hlen, hk])
set_option maxHeartbeats 1000000 in
theorem renc_link_ftf (b f : Int) (hb0 : 0 ≤ b) (hb1 : b ≤ 127) (hf0 : 0 ≤ f) (hf1 : f ≤ 127) (s : Int) (hs0 : 0 ≤ s) (hs1 : s ≤ 7) (a : Option Addr) (len cap : Nat) (w : World) : Calls Try.prog 18 #[.agg #[.int .u8 b, .int .u8 f, .bool false, .bool true, .int .u8 1, .int .u8 s, .bool false, .slice a len cap]] w (REnc w b f false true [s]) := by
  have hq : ∀ j u, ([.int .u8 s] : List Value)[j]? = some u → ((w.alloc (.cells #[.int .u8 b, .int .u8 f, .bool false, .bool true, .int .u8 1, .int .u8 s, .bool false, .slice a len cap] 24)).alloc (.cells #[.int .u8 s] 5)).cell? (Addr.add ⟨w.heap.size + 1, 0, none⟩ j) = some u := fun j u hj => by
    have := (Blk.new (w.alloc (.cells #[.int .u8 b, .int .u8 f, .bool false, .bool true, .int .u8 1, .int .u8 s, .bool false, .slice a len cap] 24)) [.int .u8 s] 5).cell j hj
    simpa [Addr.add_lit] using this
  have hA : Below w.heap.size w ((w.alloc (.cells #[.int .u8 b, .int .u8 f, .bool false, .bool true, .int .u8 1, .int .u8 s, .bool false, .slice a len cap] 24)).alloc (.cells #[.int .u8 s] 5)) := ((Below.refl _ _).alloc (Nat.le_refl _) _).alloc (by simp) _
  have hK0 := (Blk.new w (#[.int .u8 b, .int .u8 f, .bool false, .bool true, .int .u8 1, .int .u8 s, .bool false, .slice a len cap]).toList 24).alloc (.cells #[.int .u8 s] 5)
  go_enter Try.func18, Try.ntmps18
  go_upto_region 10 with (refine wp_append_nil rfl (.tmp 22) (.tmp 25) rfl rfl ⟨w.heap.size + 1, 0, none⟩ 1 1 [.int .u8 s] rfl (by decide) (by decide) rfl hq (by simp [Value.oneCell']) ?_; intro g c w1 hown hgr)
  have hB0 := grown_below hgr hA
  have hK := hK0.below (grown_all hgr)
  have hgb : w.heap.size + 2 ≤ g := by
    obtain ⟨_, hh | ⟨g', _, _, he, hh, _⟩⟩ := hown
    · cases hh.1
    · cases he; simpa using hh
  have HO := Lib.hid hown
  clear hgr hA hK0 hq hown
  have c4 := hK.cell 4 rfl
  have c6 := hK.cell 6 rfl
  have hB1 := hB0
  have hE0 : ∀ cs : Array Value, (w1.alloc (.cells cs 5)).heap[w1.heap.size]? = some (.cells cs 5 (0, 0)) := fun cs => by
    show (w1.heap.push _)[w1.heap.size]? = _
    simp
  have hc1 : ∀ o, ∀ j u, ([.int .u8 s] : List Value)[j]? = some u → (w1.alloc o).cell? (Addr.add ⟨g, 0, none⟩ j) = some u := fun o j u hj => by
    have := HO.out.cells (g := g) rfl j u hj
    rw [World.cell?_alloc_lt _ _ _ (World.block_lt_of_cell? _ _ this)]; exact this
  go_upto_region 17 with fail
  go_wp2_with (refine wp_append_own rfl (.tmp 47) (.tmp 48) rfl _ rfl _ (hE0 _) rfl ⟨g, 0, none⟩ 1 c [.int .u8 s] rfl (by omega) (by omega) rfl (hc1 _) (by simp [Value.oneCell']) ?_; intro v' w3 hown3 hgr3)
  refine bodyPost_ret (v := v') (by simp [results, Try.results18, go_sem]) rfl ?_
  exact renc_close (ys := [s]) ⟨hb0, hb1⟩ ⟨hf0, hf1⟩ (by intro z hz; simp at hz; omega) hown3 hgr3 (hB1.alloc hB1.size _) (by simp [])
set_option maxHeartbeats 1000000 in
theorem renc_link_ftt (b f : Int) (hb0 : 0 ≤ b) (hb1 : b ≤ 127) (hf0 : 0 ≤ f) (hf1 : f ≤ 127) (s : Int) (hs0 : 0 ≤ s) (hs1 : s ≤ 7) (a : Option Addr) (len cap : Nat) (w : World) : Calls Try.prog 18 #[.agg #[.int .u8 b, .int .u8 f, .bool false, .bool true, .int .u8 1, .int .u8 s, .bool true, .slice a len cap]] w (REnc w b f false true [s, 0]) := by
  have hq : ∀ j u, ([.int .u8 s] : List Value)[j]? = some u → ((w.alloc (.cells #[.int .u8 b, .int .u8 f, .bool false, .bool true, .int .u8 1, .int .u8 s, .bool true, .slice a len cap] 24)).alloc (.cells #[.int .u8 s] 5)).cell? (Addr.add ⟨w.heap.size + 1, 0, none⟩ j) = some u := fun j u hj => by
    have := (Blk.new (w.alloc (.cells #[.int .u8 b, .int .u8 f, .bool false, .bool true, .int .u8 1, .int .u8 s, .bool true, .slice a len cap] 24)) [.int .u8 s] 5).cell j hj
    simpa [Addr.add_lit] using this
  have hA : Below w.heap.size w ((w.alloc (.cells #[.int .u8 b, .int .u8 f, .bool false, .bool true, .int .u8 1, .int .u8 s, .bool true, .slice a len cap] 24)).alloc (.cells #[.int .u8 s] 5)) := ((Below.refl _ _).alloc (Nat.le_refl _) _).alloc (by simp) _
  have hK0 := (Blk.new w (#[.int .u8 b, .int .u8 f, .bool false, .bool true, .int .u8 1, .int .u8 s, .bool true, .slice a len cap]).toList 24).alloc (.cells #[.int .u8 s] 5)
  go_enter Try.func18, Try.ntmps18
  go_upto_region 10 with (refine wp_append_nil rfl (.tmp 22) (.tmp 25) rfl rfl ⟨w.heap.size + 1, 0, none⟩ 1 1 [.int .u8 s] rfl (by decide) (by decide) rfl hq (by simp [Value.oneCell']) ?_; intro g c w1 hown hgr)
  have hB0 := grown_below hgr hA
  have hK := hK0.below (grown_all hgr)
  have hgb : w.heap.size + 2 ≤ g := by
    obtain ⟨_, hh | ⟨g', _, _, he, hh, _⟩⟩ := hown
    · cases hh.1
    · cases he; simpa using hh
  have HO := Lib.hid hown
  clear hgr hA hK0 hq hown
  have c4 := hK.cell 4 rfl
  have c6 := hK.cell 6 rfl
  have hO2 := HO.out.alloc (.cells #[.int .u8 0] 5)
  have hBase : w.heap.size + 2 ≤ w1.heap.size := by have := hB0.size; have := HO.out.lt g rfl; omega
  have hbs : ((w.alloc (.cells #[.int .u8 b, .int .u8 f, .bool false, .bool true, .int .u8 1, .int .u8 s, .bool true, .slice a len cap] 24)).alloc (.cells #[.int .u8 s] 5)).heap.size ≤ (w1.alloc (.cells #[.int .u8 0] 5)).heap.size := by simp; omega
  have hq0 : ∀ j u, ([.int .u8 0] : List Value)[j]? = some u → (w1.alloc (.cells #[.int .u8 0] 5)).cell? (Addr.add ⟨w1.heap.size, 0, none⟩ j) = some u := fun j u hj => by
    have := (Blk.new w1 [.int .u8 0] 5).cell j hj
    simpa [Addr.add_lit] using this
  go_upto_region 12 with (refine wp_append_more rfl (.tmp 29) (.tmp 30) rfl _ hbs g 1 c [.int .u8 s] rfl hO2 ⟨w1.heap.size, 0, none⟩ 1 1 [.int .u8 0] rfl (by decide) (by decide) rfl hq0 (by simp [Value.oneCell']) ?_; intro g2 c2 w2 hown2 hgr2)
  have hF : Fr (fun k => k = g) w1 w2 := ((Fr.refl _ _).alloc _).grown hgr2 (fun k hk => .inl (by cases hk; rfl))
  have hB1 := hB0.trans (hF.below hB0.size (fun k hk => by rw [hk]; omega))
  have hK2 := hK.fr hF (by show ¬ (w.heap.size = g); omega)
  have HO2 := Lib.hid hown2
  clear c4 c6 hK hB0 hF hgr2 hown2 hO2 hbs hq0 HO
  have c4 := hK2.cell 4 rfl
  have hE0 : ∀ cs : Array Value, (w2.alloc (.cells cs 5)).heap[w2.heap.size]? = some (.cells cs 5 (0, 0)) := fun cs => by
    show (w2.heap.push _)[w2.heap.size]? = _
    simp
  have hc2 : ∀ o, ∀ j u, ([.int .u8 s, .int .u8 0] : List Value)[j]? = some u → (w2.alloc o).cell? (Addr.add ⟨g2, 0, none⟩ j) = some u := fun o j u hj => by
    have := HO2.out.cells (g := g2) rfl j u hj
    rw [World.cell?_alloc_lt _ _ _ (World.block_lt_of_cell? _ _ this)]; exact this
  go_upto_region 17 with fail
  go_wp2_with (refine wp_append_own rfl (.tmp 47) (.tmp 48) rfl _ rfl _ (hE0 _) rfl ⟨g2, 0, none⟩ 2 c2 [.int .u8 s, .int .u8 0] rfl (by omega) (by omega) rfl (hc2 _) (by simp [Value.oneCell']) ?_; intro v' w3 hown3 hgr3)
  refine bodyPost_ret (v := v') (by simp [results, Try.results18, go_sem]) rfl ?_
  exact renc_close (ys := [s, 0]) ⟨hb0, hb1⟩ ⟨hf0, hf1⟩ (by intro z hz; simp at hz; omega) hown3 hgr3 (hB1.alloc hB1.size _) (by simp [])
set_option maxHeartbeats 1000000 in
theorem renc_sig_ft0 (b f : Int) (hb0 : 0 ≤ b) (hb1 : b ≤ 127) (hf0 : 0 ≤ f) (hf1 : f ≤ 127) (s : Int) (wd : Bool) (a : Option Addr) (len cap : Nat) (zs : List Int) (w : World) (hl0 : 0 < len) (hl : len ≤ 300) (hk : ¬ (63 < len)) (hr : Row w a len zs) : Calls Try.prog 18 #[.agg #[.int .u8 b, .int .u8 f, .bool false, .bool true, .int .u8 2, .int .u8 s, .bool wd, .slice a len cap]] w (REnc w b f false true zs) := by
  obtain ⟨x, rfl, -⟩ := hr.2.2 0 hl0
  have hzs := hr.2.1
  have hlen := hr.1
  have gk : ¬ ((63 : Int) < len) := by omega
  have hA : Below w.heap.size w (w.alloc (.cells #[.int .u8 b, .int .u8 f, .bool false, .bool true, .int .u8 2, .int .u8 s, .bool wd, .slice (some x) len cap] 24)) := (Below.refl _ _).alloc (Nat.le_refl _) _
  have HP := Lib.hid (row_hc (hr.below hA))
  have HL : Hid ((zs.map (Value.int .u8)).length = len * 1) := by show _ = _; rw [List.length_map, hlen]; omega
  clear hr
  go_enter Try.func18, Try.ntmps18
  go_upto_region 14 with (refine wp_append_nil rfl (.tmp 35) (.tmp 37) rfl rfl x len cap (zs.map (.int .u8)) rfl hl0 (by omega) HL.out HP.out (map_one zs) ?_; intro g c w1 hown hgr)
  have hB1 := grown_below hgr hA
  have HO := Lib.hid hown
  have HZ := Lib.hid hzs
  clear hgr hA HP hown hzs
  have hE0 : ∀ cs : Array Value, (w1.alloc (.cells cs 5)).heap[w1.heap.size]? = some (.cells cs 5 (0, 0)) := fun cs => by
    show (w1.heap.push _)[w1.heap.size]? = _
    simp
  have hc1 : ∀ o, ∀ j u, (zs.map (Value.int .u8))[j]? = some u → (w1.alloc o).cell? (Addr.add ⟨g, 0, none⟩ j) = some u := fun o j u hj => by
    have := HO.out.cells (g := g) rfl j u hj
    rw [World.cell?_alloc_lt _ _ _ (World.block_lt_of_cell? _ _ this)]; exact this
  go_upto_region 17 with fail
  go_wp2_with (refine wp_append_own rfl (.tmp 47) (.tmp 48) rfl _ rfl _ (hE0 _) rfl ⟨g, 0, none⟩ len c (zs.map (.int .u8)) rfl (by omega) (by omega) HL.out (hc1 _) (map_one zs) ?_; intro v' w3 hown3 hgr3)
  refine bodyPost_ret (v := v') (by simp [results, Try.results18, go_sem]) rfl ?_
  exact renc_close (ys := zs) ⟨hb0, hb1⟩ ⟨hf0, hf1⟩ HZ.out (by rw [hlen]; exact hown3) hgr3 (hB1.alloc hB1.size _) (by simp [hlen, hk])
set_option maxHeartbeats 1000000 in
theorem renc_sig_ft1 (b f : Int) (hb0 : 0 ≤ b) (hb1 : b ≤ 127) (hf0 : 0 ≤ f) (hf1 : f ≤ 127) (s : Int) (wd : Bool) (a : Option Addr) (len cap : Nat) (zs : List Int) (w : World) (hl0 : 0 < len) (hl : len ≤ 300) (hk : 63 < len) (hr : Row w a len zs) : Calls Try.prog 18 #[.agg #[.int .u8 b, .int .u8 f, .bool false, .bool true, .int .u8 2, .int .u8 s, .bool wd, .slice a len cap]] w (REnc w b f false true zs) := by
  obtain ⟨x, rfl, -⟩ := hr.2.2 0 hl0
  have hzs := hr.2.1
  have hlen := hr.1
  have gk : (63 : Int) < len := by omega
  have hA : Below w.heap.size w (w.alloc (.cells #[.int .u8 b, .int .u8 f, .bool false, .bool true, .int .u8 2, .int .u8 s, .bool wd, .slice (some x) len cap] 24)) := (Below.refl _ _).alloc (Nat.le_refl _) _
  have HP := Lib.hid (row_hc (hr.below hA))
  have HL : Hid ((zs.map (Value.int .u8)).length = len * 1) := by show _ = _; rw [List.length_map, hlen]; omega
  clear hr
  go_enter Try.func18, Try.ntmps18
  go_upto_region 14 with (refine wp_append_nil rfl (.tmp 35) (.tmp 37) rfl rfl x len cap (zs.map (.int .u8)) rfl hl0 (by omega) HL.out HP.out (map_one zs) ?_; intro g c w1 hown hgr)
  have hB1 := grown_below hgr hA
  have HO := Lib.hid hown
  have HZ := Lib.hid hzs
  clear hgr hA HP hown hzs
  have hE0 : ∀ cs : Array Value, (w1.alloc (.cells cs 5)).heap[w1.heap.size]? = some (.cells cs 5 (0, 0)) := fun cs => by
    show (w1.heap.push _)[w1.heap.size]? = _
    simp
  have hc1 : ∀ o, ∀ j u, (zs.map (Value.int .u8))[j]? = some u → (w1.alloc o).cell? (Addr.add ⟨g, 0, none⟩ j) = some u := fun o j u hj => by
    have := HO.out.cells (g := g) rfl j u hj
    rw [World.cell?_alloc_lt _ _ _ (World.block_lt_of_cell? _ _ this)]; exact this
  go_upto_region 17 with fail
  go_wp2_with (refine wp_append_own rfl (.tmp 47) (.tmp 48) rfl _ rfl _ (hE0 _) rfl ⟨g, 0, none⟩ len c (zs.map (.int .u8)) rfl (by omega) (by omega) HL.out (hc1 _) (map_one zs) ?_; intro v' w3 hown3 hgr3)
  refine bodyPost_ret (v := v') (by simp [results, Try.results18, go_sem]) rfl ?_
  exact renc_close (ys := zs) ⟨hb0, hb1⟩ ⟨hf0, hf1⟩ HZ.out (by rw [hlen]; exact hown3) hgr3 (hB1.alloc hB1.size _) (by simp [hlen, hk])
set_option maxHeartbeats 1000000 in
theorem renc_link_tff (b f : Int) (hb0 : 0 ≤ b) (hb1 : b ≤ 127) (hf0 : 0 ≤ f) (hf1 : f ≤ 127) (s : Int) (hs0 : 0 ≤ s) (hs1 : s ≤ 7) (a : Option Addr) (len cap : Nat) (w : World) : Calls Try.prog 18 #[.agg #[.int .u8 b, .int .u8 f, .bool true, .bool false, .int .u8 1, .int .u8 s, .bool false, .slice a len cap]] w (REnc w b f true false [s]) := by
  have hq : ∀ j u, ([.int .u8 s] : List Value)[j]? = some u → ((w.alloc (.cells #[.int .u8 b, .int .u8 f, .bool true, .bool false, .int .u8 1, .int .u8 s, .bool false, .slice a len cap] 24)).alloc (.cells #[.int .u8 s] 5)).cell? (Addr.add ⟨w.heap.size + 1, 0, none⟩ j) = some u := fun j u hj => by
    have := (Blk.new (w.alloc (.cells #[.int .u8 b, .int .u8 f, .bool true, .bool false, .int .u8 1, .int .u8 s, .bool false, .slice a len cap] 24)) [.int .u8 s] 5).cell j hj
    simpa [Addr.add_lit] using this
  have hA : Below w.heap.size w ((w.alloc (.cells #[.int .u8 b, .int .u8 f, .bool true, .bool false, .int .u8 1, .int .u8 s, .bool false, .slice a len cap] 24)).alloc (.cells #[.int .u8 s] 5)) := ((Below.refl _ _).alloc (Nat.le_refl _) _).alloc (by simp) _
  have hK0 := (Blk.new w (#[.int .u8 b, .int .u8 f, .bool true, .bool false, .int .u8 1, .int .u8 s, .bool false, .slice a len cap]).toList 24).alloc (.cells #[.int .u8 s] 5)
  go_enter Try.func18, Try.ntmps18
  go_upto_region 10 with (refine wp_append_nil rfl (.tmp 22) (.tmp 25) rfl rfl ⟨w.heap.size + 1, 0, none⟩ 1 1 [.int .u8 s] rfl (by decide) (by decide) rfl hq (by simp [Value.oneCell']) ?_; intro g c w1 hown hgr)
  have hB0 := grown_below hgr hA
  have hK := hK0.below (grown_all hgr)
  have hgb : w.heap.size + 2 ≤ g := by
    obtain ⟨_, hh | ⟨g', _, _, he, hh, _⟩⟩ := hown
    · cases hh.1
    · cases he; simpa using hh
  have HO := Lib.hid hown
  clear hgr hA hK0 hq hown
  have c4 := hK.cell 4 rfl
  have c6 := hK.cell 6 rfl
  have hB1 := hB0
  have hE0 : ∀ cs : Array Value, (w1.alloc (.cells cs 5)).heap[w1.heap.size]? = some (.cells cs 5 (0, 0)) := fun cs => by
    show (w1.heap.push _)[w1.heap.size]? = _
    simp
  have hc1 : ∀ o, ∀ j u, ([.int .u8 s] : List Value)[j]? = some u → (w1.alloc o).cell? (Addr.add ⟨g, 0, none⟩ j) = some u := fun o j u hj => by
    have := HO.out.cells (g := g) rfl j u hj
    rw [World.cell?_alloc_lt _ _ _ (World.block_lt_of_cell? _ _ this)]; exact this
  go_upto_region 17 with fail
  go_wp2_with (refine wp_append_own rfl (.tmp 47) (.tmp 48) rfl _ rfl _ (hE0 _) rfl ⟨g, 0, none⟩ 1 c [.int .u8 s] rfl (by omega) (by omega) rfl (hc1 _) (by simp [Value.oneCell']) ?_; intro v' w3 hown3 hgr3)
  refine bodyPost_ret (v := v') (by simp [results, Try.results18, go_sem]) rfl ?_
  exact renc_close (ys := [s]) ⟨hb0, hb1⟩ ⟨hf0, hf1⟩ (by intro z hz; simp at hz; omega) hown3 hgr3 (hB1.alloc hB1.size _) (by simp [])
set_option maxHeartbeats 1000000 in
theorem renc_link_tft (b f : Int) (hb0 : 0 ≤ b) (hb1 : b ≤ 127) (hf0 : 0 ≤ f) (hf1 : f ≤ 127) (s : Int) (hs0 : 0 ≤ s) (hs1 : s ≤ 7) (a : Option Addr) (len cap : Nat) (w : World) : Calls Try.prog 18 #[.agg #[.int .u8 b, .int .u8 f, .bool true, .bool false, .int .u8 1, .int .u8 s, .bool true, .slice a len cap]] w (REnc w b f true false [s, 0]) := by
  have hq : ∀ j u, ([.int .u8 s] : List Value)[j]? = some u → ((w.alloc (.cells #[.int .u8 b, .int .u8 f, .bool true, .bool false, .int .u8 1, .int .u8 s, .bool true, .slice a len cap] 24)).alloc (.cells #[.int .u8 s] 5)).cell? (Addr.add ⟨w.heap.size + 1, 0, none⟩ j) = some u := fun j u hj => by
    have := (Blk.new (w.alloc (.cells #[.int .u8 b, .int .u8 f, .bool true, .bool false, .int .u8 1, .int .u8 s, .bool true, .slice a len cap] 24)) [.int .u8 s] 5).cell j hj
    simpa [Addr.add_lit] using this
  have hA : Below w.heap.size w ((w.alloc (.cells #[.int .u8 b, .int .u8 f, .bool true, .bool false, .int .u8 1, .int .u8 s, .bool true, .slice a len cap] 24)).alloc (.cells #[.int .u8 s] 5)) := ((Below.refl _ _).alloc (Nat.le_refl _) _).alloc (by simp) _
  have hK0 := (Blk.new w (#[.int .u8 b, .int .u8 f, .bool true, .bool false, .int .u8 1, .int .u8 s, .bool true, .slice a len cap]).toList 24).alloc (.cells #[.int .u8 s] 5)
  go_enter Try.func18, Try.ntmps18
  go_upto_region 10 with (refine wp_append_nil rfl (.tmp 22) (.tmp 25) rfl rfl ⟨w.heap.size + 1, 0, none⟩ 1 1 [.int .u8 s] rfl (by decide) (by decide) rfl hq (by simp [Value.oneCell']) ?_; intro g c w1 hown hgr)
  have hB0 := grown_below hgr hA
  have hK := hK0.below (grown_all hgr)
  have hgb : w.heap.size + 2 ≤ g := by
    obtain ⟨_, hh | ⟨g', _, _, he, hh, _⟩⟩ := hown
    · cases hh.1
    · cases he; simpa using hh
  have HO := Lib.hid hown
  clear hgr hA hK0 hq hown
  have c4 := hK.cell 4 rfl
  have c6 := hK.cell 6 rfl
  have hO2 := HO.out.alloc (.cells #[.int .u8 0] 5)
  have hBase : w.heap.size + 2 ≤ w1.heap.size := by have := hB0.size; have := HO.out.lt g rfl; omega
  have hbs : ((w.alloc (.cells #[.int .u8 b, .int .u8 f, .bool true, .bool false, .int .u8 1, .int .u8 s, .bool true, .slice a len cap] 24)).alloc (.cells #[.int .u8 s] 5)).heap.size ≤ (w1.alloc (.cells #[.int .u8 0] 5)).heap.size := by simp; omega
  have hq0 : ∀ j u, ([.int .u8 0] : List Value)[j]? = some u → (w1.alloc (.cells #[.int .u8 0] 5)).cell? (Addr.add ⟨w1.heap.size, 0, none⟩ j) = some u := fun j u hj => by
    have := (Blk.new w1 [.int .u8 0] 5).cell j hj
    simpa [Addr.add_lit] using this
  go_upto_region 12 with (refine wp_append_more rfl (.tmp 29) (.tmp 30) rfl _ hbs g 1 c [.int .u8 s] rfl hO2 ⟨w1.heap.size, 0, none⟩ 1 1 [.int .u8 0] rfl (by decide) (by decide) rfl hq0 (by simp [Value.oneCell']) ?_; intro g2 c2 w2 hown2 hgr2)
  have hF : Fr (fun k => k = g) w1 w2 := ((Fr.refl _ _).alloc _).grown hgr2 (fun k hk => .inl (by cases hk; rfl))
  have hB1 := hB0.trans (hF.below hB0.size (fun k hk => by rw [hk]; omega))
  have hK2 := hK.fr hF (by show ¬ (w.heap.size = g); omega)
  have HO2 := Lib.hid hown2
  clear c4 c6 hK hB0 hF hgr2 hown2 hO2 hbs hq0 HO
  have c4 := hK2.cell 4 rfl
  have hE0 : ∀ cs : Array Value, (w2.alloc (.cells cs 5)).heap[w2.heap.size]? = some (.cells cs 5 (0, 0)) := fun cs => by
    show (w2.heap.push _)[w2.heap.size]? = _
    simp
  have hc2 : ∀ o, ∀ j u, ([.int .u8 s, .int .u8 0] : List Value)[j]? = some u → (w2.alloc o).cell? (Addr.add ⟨g2, 0, none⟩ j) = some u := fun o j u hj => by
    have := HO2.out.cells (g := g2) rfl j u hj
    rw [World.cell?_alloc_lt _ _ _ (World.block_lt_of_cell? _ _ this)]; exact this
  go_upto_region 17 with fail
  go_wp2_with (refine wp_append_own rfl (.tmp 47) (.tmp 48) rfl _ rfl _ (hE0 _) rfl ⟨g2, 0, none⟩ 2 c2 [.int .u8 s, .int .u8 0] rfl (by omega) (by omega) rfl (hc2 _) (by simp [Value.oneCell']) ?_; intro v' w3 hown3 hgr3)
  refine bodyPost_ret (v := v') (by simp [results, Try.results18, go_sem]) rfl ?_
  exact renc_close (ys := [s, 0]) ⟨hb0, hb1⟩ ⟨hf0, hf1⟩ (by intro z hz; simp at hz; omega) hown3 hgr3 (hB1.alloc hB1.size _) (by simp [])
set_option maxHeartbeats 1000000 in
theorem renc_sig_tf0 (b f : Int) (hb0 : 0 ≤ b) (hb1 : b ≤ 127) (hf0 : 0 ≤ f) (hf1 : f ≤ 127) (s : Int) (wd : Bool) (a : Option Addr) (len cap : Nat) (zs : List Int) (w : World) (hl0 : 0 < len) (hl : len ≤ 300) (hk : ¬ (63 < len)) (hr : Row w a len zs) : Calls Try.prog 18 #[.agg #[.int .u8 b, .int .u8 f, .bool true, .bool false, .int .u8 2, .int .u8 s, .bool wd, .slice a len cap]] w (REnc w b f true false zs) := by
  obtain ⟨x, rfl, -⟩ := hr.2.2 0 hl0
  have hzs := hr.2.1
  have hlen := hr.1
  have gk : ¬ ((63 : Int) < len) := by omega
  have hA : Below w.heap.size w (w.alloc (.cells #[.int .u8 b, .int .u8 f, .bool true, .bool false, .int .u8 2, .int .u8 s, .bool wd, .slice (some x) len cap] 24)) := (Below.refl _ _).alloc (Nat.le_refl _) _
  have HP := Lib.hid (row_hc (hr.below hA))
  have HL : Hid ((zs.map (Value.int .u8)).length = len * 1) := by show _ = _; rw [List.length_map, hlen]; omega
  clear hr
  go_enter Try.func18, Try.ntmps18
  go_upto_region 14 with (refine wp_append_nil rfl (.tmp 35) (.tmp 37) rfl rfl x len cap (zs.map (.int .u8)) rfl hl0 (by omega) HL.out HP.out (map_one zs) ?_; intro g c w1 hown hgr)
  have hB1 := grown_below hgr hA
  have HO := Lib.hid hown
  have HZ := Lib.hid hzs
  clear hgr hA HP hown hzs
  have hE0 : ∀ cs : Array Value, (w1.alloc (.cells cs 5)).heap[w1.heap.size]? = some (.cells cs 5 (0, 0)) := fun cs => by
    show (w1.heap.push _)[w1.heap.size]? = _
    simp
  have hc1 : ∀ o, ∀ j u, (zs.map (Value.int .u8))[j]? = some u → (w1.alloc o).cell? (Addr.add ⟨g, 0, none⟩ j) = some u := fun o j u hj => by
    have := HO.out.cells (g := g) rfl j u hj
    rw [World.cell?_alloc_lt _ _ _ (World.block_lt_of_cell? _ _ this)]; exact this
  go_upto_region 17 with fail
  go_wp2_with (refine wp_append_own rfl (.tmp 47) (.tmp 48) rfl _ rfl _ (hE0 _) rfl ⟨g, 0, none⟩ len c (zs.map (.int .u8)) rfl (by omega) (by omega) HL.out (hc1 _) (map_one zs) ?_; intro v' w3 hown3 hgr3)
  refine bodyPost_ret (v := v') (by simp [results, Try.results18, go_sem]) rfl ?_
  exact renc_close (ys := zs) ⟨hb0, hb1⟩ ⟨hf0, hf1⟩ HZ.out (by rw [hlen]; exact hown3) hgr3 (hB1.alloc hB1.size _) (by simp [hlen, hk])
set_option maxHeartbeats 1000000 in
theorem renc_sig_tf1 (b f : Int) (hb0 : 0 ≤ b) (hb1 : b ≤ 127) (hf0 : 0 ≤ f) (hf1 : f ≤ 127) (s : Int) (wd : Bool) (a : Option Addr) (len cap : Nat) (zs : List Int) (w : World) (hl0 : 0 < len) (hl : len ≤ 300) (hk : 63 < len) (hr : Row w a len zs) : Calls Try.prog 18 #[.agg #[.int .u8 b, .int .u8 f, .bool true, .bool false, .int .u8 2, .int .u8 s, .bool wd, .slice a len cap]] w (REnc w b f true false zs) := by
  obtain ⟨x, rfl, -⟩ := hr.2.2 0 hl0
  have hzs := hr.2.1
  have hlen := hr.1
  have gk : (63 : Int) < len := by omega
  have hA : Below w.heap.size w (w.alloc (.cells #[.int .u8 b, .int .u8 f, .bool true, .bool false, .int .u8 2, .int .u8 s, .bool wd, .slice (some x) len cap] 24)) := (Below.refl _ _).alloc (Nat.le_refl _) _
  have HP := Lib.hid (row_hc (hr.below hA))
  have HL : Hid ((zs.map (Value.int .u8)).length = len * 1) := by show _ = _; rw [List.length_map, hlen]; omega
  clear hr
  go_enter Try.func18, Try.ntmps18
  go_upto_region 14 with (refine wp_append_nil rfl (.tmp 35) (.tmp 37) rfl rfl x len cap (zs.map (.int .u8)) rfl hl0 (by omega) HL.out HP.out (map_one zs) ?_; intro g c w1 hown hgr)
  have hB1 := grown_below hgr hA
  have HO := Lib.hid hown
  have HZ := Lib.hid hzs
  clear hgr hA HP hown hzs
  have hE0 : ∀ cs : Array Value, (w1.alloc (.cells cs 5)).heap[w1.heap.size]? = some (.cells cs 5 (0, 0)) := fun cs => by
    show (w1.heap.push _)[w1.heap.size]? = _
    simp
  have hc1 : ∀ o, ∀ j u, (zs.map (Value.int .u8))[j]? = some u → (w1.alloc o).cell? (Addr.add ⟨g, 0, none⟩ j) = some u := fun o j u hj => by
    have := HO.out.cells (g := g) rfl j u hj
    rw [World.cell?_alloc_lt _ _ _ (World.block_lt_of_cell? _ _ this)]; exact this
  go_upto_region 17 with fail
  go_wp2_with (refine wp_append_own rfl (.tmp 47) (.tmp 48) rfl _ rfl _ (hE0 _) rfl ⟨g, 0, none⟩ len c (zs.map (.int .u8)) rfl (by omega) (by omega) HL.out (hc1 _) (map_one zs) ?_; intro v' w3 hown3 hgr3)
  refine bodyPost_ret (v := v') (by simp [results, Try.results18, go_sem]) rfl ?_
  exact renc_close (ys := zs) ⟨hb0, hb1⟩ ⟨hf0, hf1⟩ HZ.out (by rw [hlen]; exact hown3) hgr3 (hB1.alloc hB1.size _) (by simp [hlen, hk])
set_option maxHeartbeats 1000000 in
theorem renc_link_ttf (b f : Int) (hb0 : 0 ≤ b) (hb1 : b ≤ 127) (hf0 : 0 ≤ f) (hf1 : f ≤ 127) (s : Int) (hs0 : 0 ≤ s) (hs1 : s ≤ 7) (a : Option Addr) (len cap : Nat) (w : World) : Calls Try.prog 18 #[.agg #[.int .u8 b, .int .u8 f, .bool true, .bool true, .int .u8 1, .int .u8 s, .bool false, .slice a len cap]] w (REnc w b f true true [s]) := by
  have hq : ∀ j u, ([.int .u8 s] : List Value)[j]? = some u → ((w.alloc (.cells #[.int .u8 b, .int .u8 f, .bool true, .bool true, .int .u8 1, .int .u8 s, .bool false, .slice a len cap] 24)).alloc (.cells #[.int .u8 s] 5)).cell? (Addr.add ⟨w.heap.size + 1, 0, none⟩ j) = some u := fun j u hj => by
    have := (Blk.new (w.alloc (.cells #[.int .u8 b, .int .u8 f, .bool true, .bool true, .int .u8 1, .int .u8 s, .bool false, .slice a len cap] 24)) [.int .u8 s] 5).cell j hj
    simpa [Addr.add_lit] using this
  have hA : Below w.heap.size w ((w.alloc (.cells #[.int .u8 b, .int .u8 f, .bool true, .bool true, .int .u8 1, .int .u8 s, .bool false, .slice a len cap] 24)).alloc (.cells #[.int .u8 s] 5)) := ((Below.refl _ _).alloc (Nat.le_refl _) _).alloc (by simp) _
  have hK0 := (Blk.new w (#[.int .u8 b, .int .u8 f, .bool true, .bool true, .int .u8 1, .int .u8 s, .bool false, .slice a len cap]).toList 24).alloc (.cells #[.int .u8 s] 5)
  go_enter Try.func18, Try.ntmps18
  go_upto_region 10 with (refine wp_append_nil rfl (.tmp 22) (.tmp 25) rfl rfl ⟨w.heap.size + 1, 0, none⟩ 1 1 [.int .u8 s] rfl (by decide) (by decide) rfl hq (by simp [Value.oneCell']) ?_; intro g c w1 hown hgr)
  have hB0 := grown_below hgr hA
  have hK := hK0.below (grown_all hgr)
  have hgb : w.heap.size + 2 ≤ g := by
    obtain ⟨_, hh | ⟨g', _, _, he, hh, _⟩⟩ := hown
    · cases hh.1
    · cases he; simpa using hh
  have HO := Lib.hid hown
  clear hgr hA hK0 hq hown
  have c4 := hK.cell 4 rfl
  have c6 := hK.cell 6 rfl
  have hB1 := hB0
  have hE0 : ∀ cs : Array Value, (w1.alloc (.cells cs 5)).heap[w1.heap.size]? = some (.cells cs 5 (0, 0)) := fun cs => by
    show (w1.heap.push _)[w1.heap.size]? = _
    simp
  have hc1 : ∀ o, ∀ j u, ([.int .u8 s] : List Value)[j]? = some u → (w1.alloc o).cell? (Addr.add ⟨g, 0, none⟩ j) = some u := fun o j u hj => by
    have := HO.out.cells (g := g) rfl j u hj
    rw [World.cell?_alloc_lt _ _ _ (World.block_lt_of_cell? _ _ this)]; exact this
  go_upto_region 17 with fail
  go_wp2_with (refine wp_append_own rfl (.tmp 47) (.tmp 48) rfl _ rfl _ (hE0 _) rfl ⟨g, 0, none⟩ 1 c [.int .u8 s] rfl (by omega) (by omega) rfl (hc1 _) (by simp [Value.oneCell']) ?_; intro v' w3 hown3 hgr3)
  refine bodyPost_ret (v := v') (by simp [results, Try.results18, go_sem]) rfl ?_
  exact renc_close (ys := [s]) ⟨hb0, hb1⟩ ⟨hf0, hf1⟩ (by intro z hz; simp at hz; omega) hown3 hgr3 (hB1.alloc hB1.size _) (by simp [])
set_option maxHeartbeats 1000000 in
theorem renc_link_ttt (b f : Int) (hb0 : 0 ≤ b) (hb1 : b ≤ 127) (hf0 : 0 ≤ f) (hf1 : f ≤ 127) (s : Int) (hs0 : 0 ≤ s) (hs1 : s ≤ 7) (a : Option Addr) (len cap : Nat) (w : World) : Calls Try.prog 18 #[.agg #[.int .u8 b, .int .u8 f, .bool true, .bool true, .int .u8 1, .int .u8 s, .bool true, .slice a len cap]] w (REnc w b f true true [s, 0]) := by
  have hq : ∀ j u, ([.int .u8 s] : List Value)[j]? = some u → ((w.alloc (.cells #[.int .u8 b, .int .u8 f, .bool true, .bool true, .int .u8 1, .int .u8 s, .bool true, .slice a len cap] 24)).alloc (.cells #[.int .u8 s] 5)).cell? (Addr.add ⟨w.heap.size + 1, 0, none⟩ j) = some u := fun j u hj => by
    have := (Blk.new (w.alloc (.cells #[.int .u8 b, .int .u8 f, .bool true, .bool true, .int .u8 1, .int .u8 s, .bool true, .slice a len cap] 24)) [.int .u8 s] 5).cell j hj
    simpa [Addr.add_lit] using this
  have hA : Below w.heap.size w ((w.alloc (.cells #[.int .u8 b, .int .u8 f, .bool true, .bool true, .int .u8 1, .int .u8 s, .bool true, .slice a len cap] 24)).alloc (.cells #[.int .u8 s] 5)) := ((Below.refl _ _).alloc (Nat.le_refl _) _).alloc (by simp) _
  have hK0 := (Blk.new w (#[.int .u8 b, .int .u8 f, .bool true, .bool true, .int .u8 1, .int .u8 s, .bool true, .slice a len cap]).toList 24).alloc (.cells #[.int .u8 s] 5)
  go_enter Try.func18, Try.ntmps18
  go_upto_region 10 with (refine wp_append_nil rfl (.tmp 22) (.tmp 25) rfl rfl ⟨w.heap.size + 1, 0, none⟩ 1 1 [.int .u8 s] rfl (by decide) (by decide) rfl hq (by simp [Value.oneCell']) ?_; intro g c w1 hown hgr)
  have hB0 := grown_below hgr hA
  have hK := hK0.below (grown_all hgr)
  have hgb : w.heap.size + 2 ≤ g := by
    obtain ⟨_, hh | ⟨g', _, _, he, hh, _⟩⟩ := hown
    · cases hh.1
    · cases he; simpa using hh
  have HO := Lib.hid hown
  clear hgr hA hK0 hq hown
  have c4 := hK.cell 4 rfl
  have c6 := hK.cell 6 rfl
  have hO2 := HO.out.alloc (.cells #[.int .u8 0] 5)
  have hBase : w.heap.size + 2 ≤ w1.heap.size := by have := hB0.size; have := HO.out.lt g rfl; omega
  have hbs : ((w.alloc (.cells #[.int .u8 b, .int .u8 f, .bool true, .bool true, .int .u8 1, .int .u8 s, .bool true, .slice a len cap] 24)).alloc (.cells #[.int .u8 s] 5)).heap.size ≤ (w1.alloc (.cells #[.int .u8 0] 5)).heap.size := by simp; omega
  have hq0 : ∀ j u, ([.int .u8 0] : List Value)[j]? = some u → (w1.alloc (.cells #[.int .u8 0] 5)).cell? (Addr.add ⟨w1.heap.size, 0, none⟩ j) = some u := fun j u hj => by
    have := (Blk.new w1 [.int .u8 0] 5).cell j hj
    simpa [Addr.add_lit] using this
  go_upto_region 12 with (refine wp_append_more rfl (.tmp 29) (.tmp 30) rfl _ hbs g 1 c [.int .u8 s] rfl hO2 ⟨w1.heap.size, 0, none⟩ 1 1 [.int .u8 0] rfl (by decide) (by decide) rfl hq0 (by simp [Value.oneCell']) ?_; intro g2 c2 w2 hown2 hgr2)
  have hF : Fr (fun k => k = g) w1 w2 := ((Fr.refl _ _).alloc _).grown hgr2 (fun k hk => .inl (by cases hk; rfl))
  have hB1 := hB0.trans (hF.below hB0.size (fun k hk => by rw [hk]; omega))
  have hK2 := hK.fr hF (by show ¬ (w.heap.size = g); omega)
  have HO2 := Lib.hid hown2
  clear c4 c6 hK hB0 hF hgr2 hown2 hO2 hbs hq0 HO
  have c4 := hK2.cell 4 rfl
  have hE0 : ∀ cs : Array Value, (w2.alloc (.cells cs 5)).heap[w2.heap.size]? = some (.cells cs 5 (0, 0)) := fun cs => by
    show (w2.heap.push _)[w2.heap.size]? = _
    simp
  have hc2 : ∀ o, ∀ j u, ([.int .u8 s, .int .u8 0] : List Value)[j]? = some u → (w2.alloc o).cell? (Addr.add ⟨g2, 0, none⟩ j) = some u := fun o j u hj => by
    have := HO2.out.cells (g := g2) rfl j u hj
    rw [World.cell?_alloc_lt _ _ _ (World.block_lt_of_cell? _ _ this)]; exact this
  go_upto_region 17 with fail
  go_wp2_with (refine wp_append_own rfl (.tmp 47) (.tmp 48) rfl _ rfl _ (hE0 _) rfl ⟨g2, 0, none⟩ 2 c2 [.int .u8 s, .int .u8 0] rfl (by omega) (by omega) rfl (hc2 _) (by simp [Value.oneCell']) ?_; intro v' w3 hown3 hgr3)
  refine bodyPost_ret (v := v') (by simp [results, Try.results18, go_sem]) rfl ?_
  exact renc_close (ys := [s, 0]) ⟨hb0, hb1⟩ ⟨hf0, hf1⟩ (by intro z hz; simp at hz; omega) hown3 hgr3 (hB1.alloc hB1.size _) (by simp [])
set_option maxHeartbeats 1000000 in
theorem renc_sig_tt0 (b f : Int) (hb0 : 0 ≤ b) (hb1 : b ≤ 127) (hf0 : 0 ≤ f) (hf1 : f ≤ 127) (s : Int) (wd : Bool) (a : Option Addr) (len cap : Nat) (zs : List Int) (w : World) (hl0 : 0 < len) (hl : len ≤ 300) (hk : ¬ (63 < len)) (hr : Row w a len zs) : Calls Try.prog 18 #[.agg #[.int .u8 b, .int .u8 f, .bool true, .bool true, .int .u8 2, .int .u8 s, .bool wd, .slice a len cap]] w (REnc w b f true true zs) := by
  obtain ⟨x, rfl, -⟩ := hr.2.2 0 hl0
  have hzs := hr.2.1
  have hlen := hr.1
  have gk : ¬ ((63 : Int) < len) := by omega
  have hA : Below w.heap.size w (w.alloc (.cells #[.int .u8 b, .int .u8 f, .bool true, .bool true, .int .u8 2, .int .u8 s, .bool wd, .slice (some x) len cap] 24)) := (Below.refl _ _).alloc (Nat.le_refl _) _
  have HP := Lib.hid (row_hc (hr.below hA))
  have HL : Hid ((zs.map (Value.int .u8)).length = len * 1) := by show _ = _; rw [List.length_map, hlen]; omega
  clear hr
  go_enter Try.func18, Try.ntmps18
  go_upto_region 14 with (refine wp_append_nil rfl (.tmp 35) (.tmp 37) rfl rfl x len cap (zs.map (.int .u8)) rfl hl0 (by omega) HL.out HP.out (map_one zs) ?_; intro g c w1 hown hgr)
  have hB1 := grown_below hgr hA
  have HO := Lib.hid hown
  have HZ := Lib.hid hzs
  clear hgr hA HP hown hzs
  have hE0 : ∀ cs : Array Value, (w1.alloc (.cells cs 5)).heap[w1.heap.size]? = some (.cells cs 5 (0, 0)) := fun cs => by
    show (w1.heap.push _)[w1.heap.size]? = _
    simp
  have hc1 : ∀ o, ∀ j u, (zs.map (Value.int .u8))[j]? = some u → (w1.alloc o).cell? (Addr.add ⟨g, 0, none⟩ j) = some u := fun o j u hj => by
    have := HO.out.cells (g := g) rfl j u hj
    rw [World.cell?_alloc_lt _ _ _ (World.block_lt_of_cell? _ _ this)]; exact this
  go_upto_region 17 with fail
  go_wp2_with (refine wp_append_own rfl (.tmp 47) (.tmp 48) rfl _ rfl _ (hE0 _) rfl ⟨g, 0, none⟩ len c (zs.map (.int .u8)) rfl (by omega) (by omega) HL.out (hc1 _) (map_one zs) ?_; intro v' w3 hown3 hgr3)
  refine bodyPost_ret (v := v') (by simp [results, Try.results18, go_sem]) rfl ?_
  exact renc_close (ys := zs) ⟨hb0, hb1⟩ ⟨hf0, hf1⟩ HZ.out (by rw [hlen]; exact hown3) hgr3 (hB1.alloc hB1.size _) (by simp [hlen, hk])
set_option maxHeartbeats 1000000 in
theorem renc_sig_tt1 (b f : Int) (hb0 : 0 ≤ b) (hb1 : b ≤ 127) (hf0 : 0 ≤ f) (hf1 : f ≤ 127) (s : Int) (wd : Bool) (a : Option Addr) (len cap : Nat) (zs : List Int) (w : World) (hl0 : 0 < len) (hl : len ≤ 300) (hk : 63 < len) (hr : Row w a len zs) : Calls Try.prog 18 #[.agg #[.int .u8 b, .int .u8 f, .bool true, .bool true, .int .u8 2, .int .u8 s, .bool wd, .slice a len cap]] w (REnc w b f true true zs) := by
  obtain ⟨x, rfl, -⟩ := hr.2.2 0 hl0
  have hzs := hr.2.1
  have hlen := hr.1
  have gk : (63 : Int) < len := by omega
  have hA : Below w.heap.size w (w.alloc (.cells #[.int .u8 b, .int .u8 f, .bool true, .bool true, .int .u8 2, .int .u8 s, .bool wd, .slice (some x) len cap] 24)) := (Below.refl _ _).alloc (Nat.le_refl _) _
  have HP := Lib.hid (row_hc (hr.below hA))
  have HL : Hid ((zs.map (Value.int .u8)).length = len * 1) := by show _ = _; rw [List.length_map, hlen]; omega
  clear hr
  go_enter Try.func18, Try.ntmps18
  go_upto_region 14 with (refine wp_append_nil rfl (.tmp 35) (.tmp 37) rfl rfl x len cap (zs.map (.int .u8)) rfl hl0 (by omega) HL.out HP.out (map_one zs) ?_; intro g c w1 hown hgr)
  have hB1 := grown_below hgr hA
  have HO := Lib.hid hown
  have HZ := Lib.hid hzs
  clear hgr hA HP hown hzs
  have hE0 : ∀ cs : Array Value, (w1.alloc (.cells cs 5)).heap[w1.heap.size]? = some (.cells cs 5 (0, 0)) := fun cs => by
    show (w1.heap.push _)[w1.heap.size]? = _
    simp
  have hc1 : ∀ o, ∀ j u, (zs.map (Value.int .u8))[j]? = some u → (w1.alloc o).cell? (Addr.add ⟨g, 0, none⟩ j) = some u := fun o j u hj => by
    have := HO.out.cells (g := g) rfl j u hj
    rw [World.cell?_alloc_lt _ _ _ (World.block_lt_of_cell? _ _ this)]; exact this
  go_upto_region 17 with fail
  go_wp2_with (refine wp_append_own rfl (.tmp 47) (.tmp 48) rfl _ rfl _ (hE0 _) rfl ⟨g, 0, none⟩ len c (zs.map (.int .u8)) rfl (by omega) (by omega) HL.out (hc1 _) (map_one zs) ?_; intro v' w3 hown3 hgr3)
  refine bodyPost_ret (v := v') (by simp [results, Try.results18, go_sem]) rfl ?_
  exact renc_close (ys := zs) ⟨hb0, hb1⟩ ⟨hf0, hf1⟩ HZ.out (by rw [hlen]; exact hown3) hgr3 (hB1.alloc hB1.size _) (by simp [hlen, hk])
end Go.Proofs.Ytpgalefpccgpfaa
