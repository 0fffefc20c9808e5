/-
  A tick's answer as a list; the clock's example; the laws ClockBounds and ClockNil.
-/
import Derived.Test.YtpalpoecakijnaaClock
namespace Go.Proofs.Ytpalpoecakijnaa
open Go.RowKit
set_option linter.unusedVariables false
set_option linter.unusedSimpArgs false

/-- What a tick hands back: a slice that reads as a list of numbers, in memory of its own. -/
def Row (w : World) (base : Nat) (A : Option Addr) (xs : List Int) : Prop :=
  0 < xs.length → ∃ g, A = some ⟨g, 0, none⟩ ∧ base ≤ g ∧ g < w.heap.size ∧ ∀ j, j < xs.length → w.cell? ⟨g, j, none⟩ = some (.int .i64 (xs.getD j 0))

theorem row_of_own {w : World} {base : Nat} {v : Value} {xs : List Int} (h : w.ownsRow base 3 1 v xs.length (xs.map (Value.int .i64))) : ∃ A cap, v = .slice A xs.length cap ∧ Row w base A xs := by
  rcases h.2 with ⟨rfl, h0⟩ | ⟨g, cap, cur, rfl, hb, hh, h1, h2, h3, h4⟩
  · exact ⟨none, 0, by rw [h0], fun hp => absurd hp (by omega)⟩
  · refine ⟨_, cap, rfl, fun _ => ⟨g, rfl, hb, (Array.getElem?_eq_some_iff.1 hh).1, fun j hj => ?_⟩⟩
    have h5 : (cur.toList.take (xs.length * 1))[j]? = (xs.map (Value.int .i64))[j]? := by rw [h4]
    rw [List.getElem?_take, if_pos (by omega), List.getElem?_map, List.getElem?_eq_getElem hj] at h5
    simp only [World.cell?, hh]
    simp only [Array.getElem?_toList] at h5
    simpa [List.getD_eq_getElem?_getD, hj] using h5

theorem tick_at (c : Nat) (w : World) (l o : List Int) (hC : Ck w c l) (ho : tickO l 8 = o) :
    Calls Try.prog 25 #[.pointer (some ⟨c, 0, none⟩)] w fun e w' => ∃ A cap, e = .returned (.slice A o.length cap) ∧ Row w' w.heap.size A o ∧ Ck w' c (tickL l) ∧ Fr (· = c) w w' := by
  refine (tick_any c w l hC).mono ?_
  rintro e w' ⟨v, rfl, hO, hK, hF⟩
  rw [ho] at hO
  obtain ⟨A, cap, rfl, hA⟩ := row_of_own hO
  exact ⟨A, cap, rfl, hA, hK, hF⟩

theorem Fr.new {c : Nat} {w w' : World} (h : Fr (· = c) w w') {B : Nat} (hB : B ≤ c) (hs : B ≤ w.heap.size) : Below B w w' := h.below hs (fun k hk => by omega)

theorem awake7_any (w : World) : Calls Try.prog 16 #[] w fun e w' => e = .returned (.bool true) ∧ Below w.heap.size w w' := by
  go_enter Try.func16, Try.ntmps16
  go_wp2_with fail
  have hC := Ck.new w
  have hB := (Below.refl w.heap.size w).alloc (Nat.le_refl _) (.cells #[.int .i64 0, .int .i64 0, .int .i64 0, .int .i64 0, .int .i64 0, .int .i64 0, .int .i64 0, .int .i64 0] 25)
  refine (start_any w.heap.size 3 2 _ _ hC).mono ?_
  rintro e w1 ⟨rfl, hC1, hF1⟩
  replace hB := hB.trans (hF1.new (Nat.le_refl _) (by simp))
  have e1 : startE 3 2 = 0 := by decide
  rw [e1]
  have l1 : startL [0, 0, 0, 0, 0, 0, 0, 0] 3 2 = [0, 0, 0, 2, 0, 0, 0, 0] := by decide
  rw [l1] at hC1
  clear hC hF1 e1 l1
  go_wp2_with fail
  refine (tick_at w.heap.size _ _ [] hC1 (by decide)).mono ?_
  rintro e w2 ⟨A, cap, rfl, -, hC2, hF2⟩
  replace hB := hB.trans (hF2.new (Nat.le_refl _) hB.size)
  have l2 : tickL [0, 0, 0, 2, 0, 0, 0, 0] = [0, 0, 0, 1, 0, 0, 0, 0] := by decide
  rw [l2] at hC2
  clear hC1 hF2 l2
  go_wp2_with fail
  refine (tick_at w.heap.size _ _ [3] hC2 (by decide)).mono ?_
  rintro e w3 ⟨A', cap', rfl, hR, hC3, hF3⟩
  replace hB := hB.trans (hF3.new (Nat.le_refl _) hB.size)
  obtain ⟨g, rfl, -, -, hg⟩ := hR (by decide)
  have hg0 := hg 0 (by decide)
  simp only [List.getD_cons_zero] at hg0
  clear hg hR hC3 hC2 hF3
  go_wp2
  go_ret
  exact ⟨rfl, hB⟩

theorem one_set (k : Nat) (hk : k < 8) (n : Int) (hn : 1 ≤ n) : leastL (([0, 0, 0, 0, 0, 0, 0, 0] : List Int).set k n) = n ∧ (([0, 0, 0, 0, 0, 0, 0, 0] : List Int).set k n).getD k 0 = n := by
  have h0 : ¬ n < 1 := by omega
  have h1 : 0 < n := by omega
  have h2 : ¬ n = 0 := by omega
  have hk8 : k = 0 ∨ k = 1 ∨ k = 2 ∨ k = 3 ∨ k = 4 ∨ k = 5 ∨ k = 6 ∨ k = 7 := by omega
  rcases hk8 with rfl | rfl | rfl | rfl | rfl | rfl | rfl | rfl <;> simp [leastL, leastF, h1]

theorem leftV_zero (i : Int) : leftV [0, 0, 0, 0, 0, 0, 0, 0] i = 0 := by
  unfold leftV
  split
  · rename_i h
    obtain ⟨h0, h1⟩ := (tOk_iff i).1 h
    obtain ⟨k, rfl⟩ := Int.eq_ofNat_of_zero_le h0
    have hk8 : k = 0 ∨ k = 1 ∨ k = 2 ∨ k = 3 ∨ k = 4 ∨ k = 5 ∨ k = 6 ∨ k = 7 := by omega
    rcases hk8 with rfl | rfl | rfl | rfl | rfl | rfl | rfl | rfl <;> rfl
  · rfl

set_option maxHeartbeats 1000000 in
theorem clockBounds_row (i n : Int) (w : World) : Calls Try.prog 3 #[.int .i64 i, .int .i64 n] w fun e w' => e = .returned (.bool true) ∧ Below w.heap.size w w' := by
  go_enter Try.func3, Try.ntmps3
  go_upto_region 2 with fail
  go_cut [6] from 10 to 23 (fun q wx => q = .bool (sOk i n) ∧ wx = w.alloc (.cells #[.int .i64 0, .int .i64 0, .int .i64 0, .int .i64 0, .int .i64 0, .int .i64 0, .int .i64 0, .int .i64 0] 25))
  case first =>
    rcases (by omega : i < 0 ∨ (0 ≤ i ∧ 8 ≤ i) ∨ ((0 ≤ i ∧ i < 8) ∧ n < 1) ∨ ((0 ≤ i ∧ i < 8) ∧ 1 ≤ n ∧ 4294967296 < n) ∨ ((0 ≤ i ∧ i < 8) ∧ 1 ≤ n ∧ n ≤ 4294967296)) with g | g | g | g | g
    all_goals
      go_wp2
      go_meet
      exact ⟨congrArg Value.bool (by first | (unfold sOk tOk; simp; done) | (unfold sOk tOk; simp; omega) | (cases h : sOk i n <;> first | rfl | (simp; omega) | (exfalso; have := (sOk_iff _ _).1 h; omega) | (exfalso; rw [← Bool.not_eq_true] at h; exact h ((sOk_iff _ _).2 (by omega))))), rfl⟩
  case rest =>
    obtain ⟨rfl, rfl⟩ := hcut
    have hC := Ck.new w
    have hB := (Below.refl w.heap.size w).alloc (Nat.le_refl _) (.cells #[.int .i64 0, .int .i64 0, .int .i64 0, .int .i64 0, .int .i64 0, .int .i64 0, .int .i64 0, .int .i64 0] 25)
    generalize w.alloc (.cells #[.int .i64 0, .int .i64 0, .int .i64 0, .int .i64 0, .int .i64 0, .int .i64 0, .int .i64 0, .int .i64 0] 25) = w1 at *
    go_wp2_with fail
    refine (start_any w.heap.size i n _ _ hC).mono ?_
    rintro e w2 ⟨rfl, hC2, hF⟩
    replace hB := hB.trans (hF.new (Nat.le_refl _) hB.size)
    clear hC hF
    have hC2 := Lib.hid hC2
    cases hs : sOk i n
    · have e1 : startE i n = 1 := by unfold startE; rw [hs]; rfl
      have l1 : startL [0, 0, 0, 0, 0, 0, 0, 0] i n = [0, 0, 0, 0, 0, 0, 0, 0] := by unfold startL; rw [hs]; rfl
      have hl := leftV_zero i
      rw [l1] at hC2
      have hs := Lib.hid hs
      clear l1
      go_wp2_with (first | (go_at_call 16; refine (awake7_any _).mono ?_; rintro e w3 ⟨rfl, hb⟩; replace hC2 := Lib.hid (Ck.below hC2.out hb); replace hB := hB.trans (hb.mono hB.size); clear hb) | (go_at_call 17; refine (on_any _ _ _ _ hC2.out).mono ?_; rintro e w' ⟨rfl, rfl⟩))
      go_ret
      exact ⟨rfl, hB⟩
    · have e1 : startE i n = 0 := by unfold startE; rw [hs]; rfl
      obtain ⟨⟨i0, i8⟩, n1, n2⟩ := (sOk_iff i n).1 hs
      have l1 : startL [0, 0, 0, 0, 0, 0, 0, 0] i n = ([0, 0, 0, 0, 0, 0, 0, 0] : List Int).set i.toNat n := by unfold startL; rw [hs]; rfl
      rw [l1] at hC2
      obtain ⟨q1, q2⟩ := one_set i.toNat (by omega) n n1
      have hl : leftV (([0, 0, 0, 0, 0, 0, 0, 0] : List Int).set i.toNat n) i = n := by unfold leftV; rw [(tOk_iff i).2 ⟨i0, i8⟩, if_pos rfl, q2]
      have hs := Lib.hid hs
      clear l1 q2
      generalize ([0, 0, 0, 0, 0, 0, 0, 0] : List Int).set i.toNat n = l at *
      go_wp2_with (first | (go_at_call 16; refine (awake7_any _).mono ?_; rintro e w3 ⟨rfl, hb⟩; replace hC2 := Lib.hid (Ck.below hC2.out hb); replace hB := hB.trans (hb.mono hB.size); clear hb) | (go_at_call 17; refine (on_any _ _ _ _ hC2.out).mono ?_; rintro e w' ⟨rfl, rfl⟩) | (go_at_call 18; refine (left_any _ _ _ _ hC2.out).mono ?_; rintro e w' ⟨rfl, rfl⟩) | (go_at_call 19; refine (least_any _ _ _ hC2.out).mono ?_; rintro e w' ⟨rfl, rfl⟩))
      go_ret
      exact ⟨rfl, hB⟩

theorem clockNil_row (i n : Int) (w : World) : Calls Try.prog 6 #[.int .i64 i, .int .i64 n] w fun e w' => e = .returned (.bool true) ∧ Below w.heap.size w w' := by
  have hB := (Below.refl w.heap.size w).alloc (Nat.le_refl _) (.cells #[.int .i64 i, .int .i64 n] 3)
  have hx : ∀ j, j < 2 → (w.alloc (.cells #[.int .i64 i, .int .i64 n] 3)).cell? ⟨w.heap.size, j, none⟩ = some (.int .i64 (([i, n] : List Int).getD j 0)) := by
    intro j hj
    refine (Blk.new w [.int .i64 i, .int .i64 n] 3).cell j ?_
    rcases (by omega : j = 0 ∨ j = 1) with rfl | rfl <;> rfl
  have hx := Lib.hid hx
  go_enter Try.func6, Try.ntmps6
  go_wp2_with fail
  refine (stop_nil w.heap.size 2 2 [i, n] _ rfl (by omega) hx.out).mono ?_
  rintro e w1 ⟨rfl, rfl⟩
  clear hx
  go_wp2_with (first | (go_at_call 28; refine (clear_nil _).mono ?_; rintro e w' ⟨rfl, rfl⟩) | (go_at_call 16; refine (awake7_any _).mono ?_; rintro e w3 ⟨rfl, hb⟩; replace hB := hB.trans (hb.mono hB.size); clear hb) | (go_at_call 15; refine (start_nil _ _ _).mono ?_; rintro e w' ⟨rfl, rfl⟩) | (go_at_call 17; refine (on_nil _ _).mono ?_; rintro e w' ⟨rfl, rfl⟩) | (go_at_call 18; refine (left_nil _ _).mono ?_; rintro e w' ⟨rfl, rfl⟩) | (go_at_call 19; refine (least_nil _).mono ?_; rintro e w' ⟨rfl, rfl⟩) | (go_at_call 25; refine (tick_nil _).mono ?_; rintro e w' ⟨rfl, rfl⟩))
  go_ret
  exact ⟨rfl, hB⟩
end Go.Proofs.Ytpalpoecakijnaa
