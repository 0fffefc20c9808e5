/-
  The ring's numbers from a first one on up to a last one: a range over a function.
-/
import Derived.RangeFuncNested
import Derived.RangeFuncBound
import Derived.RangeFuncCalls
import Derived.RangeFuncLeaves
import Derived.RangeFuncBox
import Derived.Shelf.Abstract
import Derived.Shelf.RegionOpen
import Derived.OwnWalkIn
import Derived.TacticsInMore
import Derived.LoopNIn
import Derived.LoopIn
import Derived.Maps.AppendAt
import Derived.Test.YtailojidffehnaaBase
import Derived.Test.YtailojidffehnaaRingLaws
namespace Go.Proofs.Ytailojidffehnaa
open Go.RowKit Go.Shelf
set_option linter.unusedVariables false
set_option linter.unusedSimpArgs false
attribute [local go_sem] Oper.semAt_some

theorem own_weak {w : World} {b0 b1 : Nat} {e : TypeId} {size n : Nat} {v : Value} {xs : List Value} (h : w.ownsRow b1 e size v n xs) (hb : b0 ≤ b1) : w.ownsRow b0 e size v n xs := by
  refine ⟨h.1, ?_⟩
  rcases h.2 with h1 | ⟨g, cap, cur, h1, h2, h3⟩
  · exact .inl h1
  · exact .inr ⟨g, cap, cur, h1, Nat.le_trans hb h2, h3⟩
/-- The numbers, in order. -/
def btw (a b : Int) : List Int := (List.range ((gap a b).toNat + 1)).map fun i : Nat => (a + i) % 128
theorem btw_len (a b : Int) : (btw a b).length = (gap a b).toNat + 1 := by simp [btw]
theorem btw_at (a b : Int) (k : Nat) (h : k < (gap a b).toNat + 1) : (btw a b)[k]? = some ((a + k) % 128) := by simp [btw, h]
theorem btw_take (a b : Int) (k : Nat) (h : k < (gap a b).toNat + 1) : (btw a b).take (k + 1) = (btw a b).take k ++ [(a + k) % 128] := by
  rw [List.take_add_one, btw_at a b k h]; rfl
/-- Two boxes are as they were. -/
def Kq (B1 B2 : Nat) (W W' : World) : Prop := W'.heap[B1]? = W.heap[B1]? ∧ W'.heap[B2]? = W.heap[B2]?

theorem walk_in (n : Nat) (a b : Int) (w : World) : CallsIn Fence.wide n Try.prog 33 #[.int .u8 a, .int .u8 b] w fun e w' =>
    e = .returned (.func (.func 35) #[] #[.pointer (some ⟨w.heap.size, 0, none⟩), .pointer (some ⟨w.heap.size + 1, 0, none⟩)]) ∧ w' = (w.alloc (.cells #[.int .u8 a] 5)).alloc (.cells #[.int .u8 b] 5) := by
  refine callsIn_of_wp Try.func33 rfl trivial ?_ rfl
  simp only [Try.ntmps33, List.size_toArray, List.length_cons, List.length_nil, Nat.reduceAdd, Nat.reduceSub, Array.replicate_succ, Array.replicate_zero, List.push_toArray, List.append_toArray, List.nil_append, List.cons_append]
  gi_wp2
  go_ret
  exact ⟨rfl, rfl⟩

set_option maxRecDepth 100000 in
set_option maxHeartbeats 1000000 in
theorem walk1_in (n : Nat) (hn : 1 ≤ n) (l B1 B2 : Nat) (a b : Int) (ha : 0 ≤ a ∧ a ≤ 255) (J Jx : List Int → World → Prop)
    (hY : ∀ pre x W, J pre W → pre.length < (btw a b).length → YieldAt Fence.wide (n - 1) Try.prog l #[.int .u8 x] W fun e W' =>
      (e = .returned (.bool true) ∧ J (pre ++ [x]) W' ∧ Kq B1 B2 W W') ∨ (e = .returned (.bool false) ∧ Jx (pre ++ [x]) W'))
    (W : World) (h1 : Boxed W B1 5 (.int .u8 a)) (h2 : Boxed W B2 5 (.int .u8 b)) (h0 : J [] W) :
    CallsIn Fence.wide n Try.prog 35 #[.func (.yield l) #[] #[], .pointer (some ⟨B1, 0, none⟩), .pointer (some ⟨B2, 0, none⟩)] W fun e W' => (∃ v, e = .returned v) ∧
      ((∃ ys, ys = btw a b ∧ J ys W') ∨ (∃ pre : List Int, True ∧ Jx pre W')) := by
  have hG := gap_range a b
  obtain ⟨G, hGe⟩ : ∃ G : Nat, gap a b = G := ⟨(gap a b).toNat, by omega⟩
  have hL : (btw a b).length = G + 1 := by rw [btw_len, hGe]; simp
  have hT : ∀ k, k < G + 1 → (btw a b).take (k + 1) = (btw a b).take k ++ [(a + k) % 128] := fun k hk => btw_take a b k (by rw [hGe]; simpa using hk)
  have HL := Lib.hid hL
  have HT := Lib.hid hT
  generalize btw a b = xs at *
  clear hL hT
  have c1 := h1.cell
  have c2 := h2.cell
  refine callsIn_of_wp Try.func35 rfl trivial ?_ rfl
  simp only [Try.ntmps35, List.size_toArray, List.length_cons, List.length_nil, Nat.reduceAdd, Nat.reduceSub, Array.replicate_succ, Array.replicate_zero, List.push_toArray, List.append_toArray, List.nil_append, List.cons_append]
  gi_wp2_with (refine ⟨trivial, ?_⟩; gi_at_call 15; refine (callsIn_wide.2 (gap_any _ _ _)).mono ?_; rw [hGe]; rintro e w' ⟨rfl, rfl⟩)
  gi_loopw [9] (fun i wr => ∃ k : Nat, k ≤ G + 1 ∧ i = .int .i64 k ∧ Boxed wr B1 5 (.int .u8 a) ∧ Boxed wr B2 5 (.int .u8 b) ∧ J (xs.take k) wr) (fun i wr => G + 1 - (intOf i).toNat)
  case atStart => exact ⟨0, by omega, rfl, h1, h2, h0⟩
  case round =>
    clear h1 h2 c1 c2
    obtain ⟨k, hk, rfl, h1, h2, hJ⟩ := hrel
    by_cases hlt : k < G + 1
    case neg =>
      have hk2 : k = G + 1 := by omega
      subst hk2
      rw [List.take_of_length_le (by rw [HL.out]; exact Nat.le_refl _)] at hJ
      gi_wp2
      go_end0
      exact ⟨⟨_, rfl⟩, .inl ⟨xs, rfl, hJ⟩⟩
    have hlt2 : (k : Int) < (G : Int) + 1 := by omega
    have c1 := h1.cell
    have hs := HT.out k hlt
    obtain ⟨fn, tmps, assign, body, hy, hR⟩ := hY (xs.take k) ((a + k) % 128) wr hJ (by rw [List.length_take, HL.out]; omega)
    rw [← hs] at hR
    have hs := Lib.hid hs
    gi_wp2_with (refine ⟨trivial, ?_⟩; gi_at_call 18; refine (callsIn_wide.2 (at_any _ _)).mono ?_; rintro e w' ⟨rfl, rfl⟩)
    refine hR.mono ?_
    rintro e W3 (⟨rfl, hJ3, hk3⟩ | ⟨rfl, hJx3⟩)
    · have b1 : Boxed W3 B1 5 (.int .u8 a) := hk3.1.trans h1
      have b2 : Boxed W3 B2 5 (.int .u8 b) := hk3.2.trans h2
      gi_wp2
      go_roundw
      case rel => exact ⟨k + 1, by omega, by go_num, b1, b2, hJ3⟩
      case measure => simp [intOf]; omega
    · gi_wp2
      refine bodyPost_ret (results_none rfl _ _ _) rfl ?_
      exact ⟨⟨_, rfl⟩, .inr ⟨_, trivial, hJx3⟩⟩

theorem walk_stops (n : Nat) (hn : 1 ≤ n) (B1 B2 : Nat) (a b : Int) (ha : 0 ≤ a ∧ a ≤ 255) (w : World) (h1 : Boxed w B1 5 (.int .u8 a)) (h2 : Boxed w B2 5 (.int .u8 b)) :
    SeqStopsK Fence.wide n Try.prog 35 #[.pointer (some ⟨B1, 0, none⟩), .pointer (some ⟨B2, 0, none⟩)] (fun x : Int => #[Value.int .u8 x]) (Kq B1 B2) (fun ys => ys = btw a b) (fun _ => True) (btw a b).length w := fun l J Jx W hW _ _ hY h0 =>
  walk1_in n hn l B1 B2 a b ha J Jx hY W ((hW.block _ h1.lt).trans h1) ((hW.block _ h2.lt).trans h2) h0

theorem infoB5 : (Try.prog.info? 5).map (fun i => (i.zero, i.size, i.bytes)) = some (some (.int .u8 0), 1, 1) := by kernel_rfl

set_option maxRecDepth 100000 in
set_option maxHeartbeats 2000000 in
theorem between_in (n : Nat) (hn : 3 ≤ n) (a b : Int) (ha : 0 ≤ a ∧ a ≤ 255) (w : World) :
    CallsIn Fence.wide n Try.prog 21 #[.int .u8 a, .int .u8 b] w fun e W' => ∃ v, e = .returned v ∧ W'.ownsRow w.heap.size 5 1 v (btw a b).length ((btw a b).map (Value.int .u8)) ∧ Below w.heap.size w W' := by
  have h1 : 1 ≤ n := by omega
  have hG := gap_range a b
  have hL : (btw a b).length ≤ 128 := by rw [btw_len]; omega
  obtain ⟨i0, hi, hz0, hz1, hz2⟩ := info_parts infoB5
  refine callsIn_of_wp_marks Try.func21 rfl trivial ?_ rfl
  simp only [Try.ntmps21, List.size_toArray, List.length_cons, List.length_nil, Nat.reduceAdd, Nat.reduceSub, Array.replicate_succ, Array.replicate_zero, List.push_toArray, List.append_toArray, List.nil_append, List.cons_append]
  gi_wp2_with (refine ⟨trivial, ?_⟩; gi_at_call 33; refine (walk_in (n - 1) a b _).mono ?_; rintro e w' ⟨rfl, rfl⟩)
  have bO := Boxed.new w 28 (.slice none 0 0)
  have bA := Boxed.new (w.alloc (.cells #[.slice none 0 0] 28)) 5 (.int .u8 a)
  have bB := Boxed.new ((w.alloc (.cells #[.slice none 0 0] 28)).alloc (.cells #[.int .u8 a] 5)) 5 (.int .u8 b)
  simp only [World.size_alloc] at bA bB
  have hB0 : Below w.heap.size w (((w.alloc (.cells #[.slice none 0 0] 28)).alloc (.cells #[.int .u8 a] 5)).alloc (.cells #[.int .u8 b] 5)) := (((Below.refl _ w).alloc (Nat.le_refl _) _).alloc (by simp) _).alloc (by simp; omega) _
  refine wpIn_rangeFunc_ownG rfl h1 (gf := 35) (lb := #[.pointer (some ⟨w.heap.size + 1, 0, none⟩), .pointer (some ⟨w.heap.size + 1 + 1, 0, none⟩)]) rfl trivial (enters_of Try.func35 (by kernel_rfl) rfl)
    (walk_stops (n - 1) (by omega) (w.heap.size + 1) (w.heap.size + 1 + 1) a b ha _ (bA.alloc _) bB) (fun h k => ⟨k.1.trans h.1, k.2.trans h.2⟩)
    (fun W l o o' hl ho _ _ => ⟨World.putObj_heap_other (by simp at hl; omega), World.putObj_heap_other (by simp at hl; omega)⟩) (Below.refl _ _) (fun _ => rfl)
    (fun pre W => ((∃ v, Boxed W w.heap.size 28 v ∧ W.ownsRow (w.heap.size + 3) 5 1 v pre.length (pre.map (Value.int .u8)) ∧ True) ∧ Below w.heap.size w W) ∧ w.heap.size + 3 ≤ W.heap.size)
    (fun _ _ _ => False)
    (OwnFrom.and (OwnFrom.and (Own.from (holdsRow_own (w.heap.size + 3) w.heap.size 28 5 1 (fun pre : List Int => pre.length) (fun pre => pre.map (Value.int .u8)) (fun _ _ => True)) _) (ownFrom_below (Nat.le_refl _) (by simp; omega))) (fun s W W' row hs hg hr => Nat.le_trans hs hg.size))
    (fun _ _ _ _ _ hs _ _ => hs)
    ⟨⟨⟨_, (bO.alloc _).alloc _, World.ownsRow_nil _ _ _ _, trivial⟩, hB0⟩, by simp⟩
    (fun x => { tmps := #[.int .u8 a, .int .u8 b, undef, undef, .slice none 0 0, .pointer (some ⟨w.heap.size, 0, none⟩), .int .u8 x, .int .u8 a, .int .u8 b, .func (.func 35) #[] #[.pointer (some ⟨w.heap.size + 1, 0, none⟩), .pointer (some ⟨w.heap.size + 1 + 1, 0, none⟩)], .int .u8 x, undef, undef, undef, undef, undef], defers := [] }) ?assign ?body ?done ?stop
  case assign =>
    intro l x W K hK
    gi_wp2
    exact hK
  case body =>
    rintro l pre x W ⟨⟨⟨v, hv, hrow, _⟩, hB⟩, hsz⟩ hlt
    have hc := hv.cell
    have hown := hrow
    gi_wp2_with (gi_at_builtin; refine wpListIn_append_own _ rfl _ _ 28 rfl (w.heap.size + 3) 5 i0 (.int .u8 0) 1 1 Try.underlying28 hi hz0 hz1 hz2 rfl (by decide) _ _ _ rfl (hrow.alloc _) ⟨W.heap.size, 0, none⟩ 1 1 [.int .u8 x] rfl rfl (cell_one_new _ _ _) (by simp [Value.oneCell']) (by unfold maxLen; omega) (by omega) (by simp; omega) ?_; intro v' w1 hown' hgrow _; obtain ⟨g', cap', rfl⟩ := ownsRow_succ hown'; obtain ⟨hv1, hv2, hr2, hk2, hb2⟩ := hv.appended (by decide) (own_weak hrow (Nat.le_add_right w.heap.size 3)) hB.size (Nat.le_refl _) (own_weak hown' (Nat.le_add_right w.heap.size 3)) hgrow; have hc1 := hv1.cell; have hf1 := hv1.frozen)
    have hnb : ∀ k, k < w.heap.size + 3 → some k ≠ v.ownBlock := by
      intro k hk e
      rcases hrow.2 with ⟨h1, _⟩ | ⟨g, cap, cur, h1, h2, _⟩
      · rw [h1] at e; cases e
      · rw [h1] at e
        have : k = g := by simpa [Value.ownBlock] using e
        omega
    have hkq : ∀ k, w.heap.size < k → k < w.heap.size + 3 → (w1.setCell ⟨w.heap.size, 0, none⟩ (.slice (some ⟨g', 0, none⟩) (pre.length + 1) cap')).heap[k]? = W.heap[k]? := by
      intro k h1 h2
      rw [Below.heap_setCell _ _ _ _ (by show k ≠ w.heap.size; omega), hgrow.block k (by simp; omega) (hnb k h2), Below.heap_alloc _ _ _ (by omega)]
    have hr3 := hown'.kept (grownBy_setCell' w1 w.heap.size (.slice (some ⟨g', 0, none⟩) (pre.length + 1) cap')) (by
      refine .inr fun e => ?_
      rcases hown'.2 with ⟨h1, _⟩ | ⟨g, cap, cur, h1, h2, _⟩
      · cases h1
      · have : g' = w.heap.size := by simpa [Value.ownBlock] using e
        exact absurd h1 (by first | (simp; done) | (simp; omega)))
    exact ⟨hk2.from _, ⟨hkq _ (by omega) (by omega), hkq _ (by omega) (by omega)⟩, ⟨⟨_, hv2, by simpa using hr3, trivial⟩, hB.trans hb2⟩, Nat.le_trans hsz hb2.size⟩
  case done =>
    rintro D ys W hD rfl ⟨⟨⟨v, hv, hrow, _⟩, hB⟩, hsz⟩ hK
    have hc := hv.cell
    gi_wp2
    refine ⟨by simp, .inl ⟨_, _, rfl, run_takeDeferred hK, ?_⟩⟩
    exact ⟨_, results_tmp rfl _ _ _, v, rfl, ownsRow_putObj (own_weak hrow (Nat.le_add_right w.heap.size 3)) _ hK rfl, hB.trans (belowK_b (w := w) (Nat.le_refl _) W D _ _ (by simp at hD; omega) hK rfl rfl)⟩
  case stop =>
    rintro D c pre W _ _ h _
    exact h.elim
theorem between_any (a b : Int) (ha : 0 ≤ a ∧ a ≤ 255) (w : World) :
    Calls Try.prog 21 #[.int .u8 a, .int .u8 b] w fun e W' => ∃ v, e = .returned v ∧ W'.ownsRow w.heap.size 5 1 v (btw a b).length ((btw a b).map (Value.int .u8)) ∧ Below w.heap.size w W' :=
  callsIn_wide.1 (between_in 3 (by omega) a b ha w)
end Go.Proofs.Ytailojidffehnaa
