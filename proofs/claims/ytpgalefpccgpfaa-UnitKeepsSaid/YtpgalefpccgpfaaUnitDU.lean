/-
  Units: what octets are one? The program's own answer.
-/
import Derived.Test.YtpgalefpccgpfaaUnitC
import Derived.Test.YtpgalefpccgpfaaUnitD
namespace Go.Proofs.Ytpgalefpccgpfaa
open Go.RowKit
set_option linter.unusedVariables false
set_option linter.unusedSimpArgs false

theorem Row.fr {S : Nat → Prop} {w w' : World} {x : Addr} {len : Nat} {zs : List Int} (h : Row w (some x) len zs) (hF : Fr S w w') (hn : ¬ S x.block) : Row w' (some x) len zs :=
  ⟨h.1, h.2.1, fun i hi => by
    obtain ⟨y, e, hc⟩ := h.2.2 i hi
    cases e
    have hb : (x.add i).block = x.block := by unfold Addr.add; split <;> rfl
    have hlt := World.block_lt_of_cell? _ _ hc
    refine ⟨x, rfl, ?_⟩
    rw [← hc]
    exact World.cell?_of_block (w := w) (hF.block _ hlt (by rw [hb]; exact hn))⟩
theorem udec_long (a : Option Addr) (len cap : Nat) (w : World) (h : 276 < len) : Calls Try.prog 16 #[.slice a len cap] w fun e w' => e = .returned (.tuple #[.agg #[.int .u8 0, .int .u8 0, .bool false, .bool false, .int .u8 0, .int .u8 0, .bool false, .slice none 0 0], .int .i64 6]) ∧ Below w.heap.size w w' := by
  have h1 : ¬ ((len : Int) < 3) := by omega
  have h2 : (276 : Int) < len := by omega
  go_enter Try.func16, Try.ntmps16
  go_wp2
  refine bodyPost_ret (v := .tuple #[.agg #[.int .u8 0, .int .u8 0, .bool false, .bool false, .int .u8 0, .int .u8 0, .bool false, .slice none 0 0], .int .i64 6]) (by simp [results, Try.results16, go_sem]) rfl ?_
  exact ⟨rfl, (Below.refl _ _).alloc (Nat.le_refl _) _⟩
theorem rdec_long (a : Option Addr) (len cap : Nat) (w : World) (h : 276 < len) : Calls Try.prog 17 #[.slice a len cap] w fun e w' => e = .returned (.tuple #[.agg #[.int .u8 0, .int .u8 0, .bool false, .bool false, .int .u8 0, .int .u8 0, .bool false, .slice none 0 0], .int .i64 6]) ∧ Below w.heap.size w w' := by
  have h1 : ¬ ((len : Int) < 3) := by omega
  have h2 : (276 : Int) < len := by omega
  go_enter Try.func17, Try.ntmps17
  go_wp2
  refine bodyPost_ret (v := .tuple #[.agg #[.int .u8 0, .int .u8 0, .bool false, .bool false, .int .u8 0, .int .u8 0, .bool false, .slice none 0 0], .int .i64 6]) (by simp [results, Try.results17, go_sem]) rfl ?_
  exact ⟨rfl, ((Below.refl _ _).alloc (Nat.le_refl _) _).alloc (by simp) _⟩
theorem udec_form_a (x : Addr) (len cap : Nat) (z0 z1 z2 : Int) (w : World) (h3 : 3 ≤ len) (h276 : len ≤ 276) (hcap : len ≤ cap) (c0 : w.cell? x = some (.int .u8 z0)) (c1 : w.cell? ⟨x.block, x.off + 1, none⟩ = some (.int .u8 z1)) (c2 : w.cell? ⟨x.block, x.off + 2, none⟩ = some (.int .u8 z2)) (hz0 : 0 ≤ z0 ∧ z0 < 256) (hz1 : 0 ≤ z1 ∧ z1 < 256) (hz2 : 0 ≤ z2 ∧ z2 < 256) (hk : ¬ (63 < len - 3)) (hm : z2 % 64 ≠ ((len - 3 : Nat) : Int)) : Calls Try.prog 16 #[.slice (some x) len cap] w fun e w' => e = .returned (.tuple #[.agg #[.int .u8 0, .int .u8 0, .bool false, .bool false, .int .u8 0, .int .u8 0, .bool false, .slice none 0 0], .int .i64 4]) ∧ Below w.heap.size w w' := by
  have hlt := World.block_lt_of_cell? _ _ c0
  have n0 : x.block ≠ w.heap.size := by omega
  have n1 : x.block ≠ w.heap.size + 1 := by omega
  have h63 := and63 z2 hz2.1 hz2.2
  obtain ⟨y, hy, hy0, hy1⟩ : ∃ y, z2 % 64 = y ∧ 0 ≤ y ∧ y < 64 := ⟨_, rfl, by omega, by omega⟩
  rw [hy] at hm h63
  clear hy
  have hw : wrap64 y = y := by unfold wrap64; omega
  have g1 : ¬ (63 : Int) < ((len - 3 : Nat) : Int) := by omega
  have g2 : (y == ((len - 3 : Nat) : Int)) = false := by simp; omega
  have g3 : (y != ((len - 3 : Nat) : Int)) = true := by simp; omega
  have g0 : ((len - 3 : Nat) : Int) < 63 ∨ ((len - 3 : Nat) : Int) = 63 := by omega
  have g4 : ¬ ((len : Int) < 3) := by omega
  have g5 : ¬ ((276 : Int) < len) := by omega
  go_enter Try.func16, Try.ntmps16
  go_upto_region 5 with fail
  go_region
  go_upto_region 6 with fail
  go_region
  all_goals go_wp2
  all_goals (refine bodyPost_ret (v := .tuple #[.agg #[.int .u8 0, .int .u8 0, .bool false, .bool false, .int .u8 0, .int .u8 0, .bool false, .slice none 0 0], .int .i64 4]) (by simp [results, Try.results16, go_sem]) rfl ?_)
  all_goals exact ⟨rfl, below_drewN (((Below.refl _ _).alloc (Nat.le_refl _) _).alloc (by simp) _) 2⟩
theorem udec_form_b (x : Addr) (len cap : Nat) (z0 z1 z2 : Int) (w : World) (h3 : 3 ≤ len) (h276 : len ≤ 276) (hcap : len ≤ cap) (c0 : w.cell? x = some (.int .u8 z0)) (c1 : w.cell? ⟨x.block, x.off + 1, none⟩ = some (.int .u8 z1)) (c2 : w.cell? ⟨x.block, x.off + 2, none⟩ = some (.int .u8 z2)) (hz0 : 0 ≤ z0 ∧ z0 < 256) (hz1 : 0 ≤ z1 ∧ z1 < 256) (hz2 : 0 ≤ z2 ∧ z2 < 256) (hk : 63 < len - 3) (hm : z2 % 64 ≠ 63) : Calls Try.prog 16 #[.slice (some x) len cap] w fun e w' => e = .returned (.tuple #[.agg #[.int .u8 0, .int .u8 0, .bool false, .bool false, .int .u8 0, .int .u8 0, .bool false, .slice none 0 0], .int .i64 4]) ∧ Below w.heap.size w w' := by
  have hlt := World.block_lt_of_cell? _ _ c0
  have n0 : x.block ≠ w.heap.size := by omega
  have n1 : x.block ≠ w.heap.size + 1 := by omega
  have h63 := and63 z2 hz2.1 hz2.2
  obtain ⟨y, hy, hy0, hy1⟩ : ∃ y, z2 % 64 = y ∧ 0 ≤ y ∧ y < 64 := ⟨_, rfl, by omega, by omega⟩
  rw [hy] at hm h63
  clear hy
  have hw : wrap64 y = y := by unfold wrap64; omega
  have g1 : (63 : Int) < ((len - 3 : Nat) : Int) := by omega
  have g2 : (y == 63) = false := by simp; omega
  have g3 : (y != 63) = true := by simp; omega
  have g4 : ¬ ((len : Int) < 3) := by omega
  have g5 : ¬ ((276 : Int) < len) := by omega
  go_enter Try.func16, Try.ntmps16
  go_upto_region 5 with fail
  go_region
  go_upto_region 6 with fail
  go_region
  all_goals go_wp2
  all_goals (refine bodyPost_ret (v := .tuple #[.agg #[.int .u8 0, .int .u8 0, .bool false, .bool false, .int .u8 0, .int .u8 0, .bool false, .slice none 0 0], .int .i64 4]) (by simp [results, Try.results16, go_sem]) rfl ?_)
  all_goals exact ⟨rfl, below_drewN (((Below.refl _ _).alloc (Nat.le_refl _) _).alloc (by simp) _) 2⟩
theorem udec_0 (x : Addr) (len cap : Nat) (z0 z1 z2 : Int) (w : World) (h3 : 3 ≤ len) (h276 : len ≤ 276) (hcap : len ≤ cap) (c0 : w.cell? x = some (.int .u8 z0)) (c1 : w.cell? ⟨x.block, x.off + 1, none⟩ = some (.int .u8 z1)) (c2 : w.cell? ⟨x.block, x.off + 2, none⟩ = some (.int .u8 z2)) (hz0 : 0 ≤ z0 ∧ z0 < 256) (hz1 : 0 ≤ z1 ∧ z1 < 256) (hz2 : 0 ≤ z2 ∧ z2 < 256) (hl : len = 3) (hm : z2 % 64 = 0) : Calls Try.prog 16 #[.slice (some x) len cap] w fun e w' => e = .returned (.tuple #[.agg #[.int .u8 (z0 % 128), .int .u8 (z1 % 128), .bool (decide (128 ≤ z0)), .bool (decide (128 ≤ z1)), .int .u8 0, .int .u8 0, .bool false, .slice none 0 0], .int .i64 0]) ∧ Below w.heap.size w w' := by
  subst hl
  have hlt := World.block_lt_of_cell? _ _ c0
  have n0 : x.block ≠ w.heap.size := by omega
  have n1 : x.block ≠ w.heap.size + 1 := by omega
  have h63 := and63 z2 hz2.1 hz2.2
  rw [hm] at h63
  go_enter Try.func16, Try.ntmps16
  go_upto_region 5 with fail
  go_region
  go_upto_region 6 with fail
  go_region
  all_goals go_wp2
  all_goals (refine bodyPost_ret (v := .tuple #[.agg #[.int .u8 (z0 % 128), .int .u8 (z1 % 128), .bool (decide (128 ≤ z0)), .bool (decide (128 ≤ z1)), .int .u8 0, .int .u8 0, .bool false, .slice none 0 0], .int .i64 0]) (by simp [results, Try.results16, go_sem]) rfl ?_)
  all_goals exact ⟨rfl, below_drewN (((Below.refl _ _).alloc (Nat.le_refl _) _).alloc (by simp) _) 2⟩
theorem udec_1 (x : Addr) (len cap : Nat) (z0 z1 z2 : Int) (w : World) (h3 : 3 ≤ len) (h276 : len ≤ 276) (hcap : len ≤ cap) (c0 : w.cell? x = some (.int .u8 z0)) (c1 : w.cell? ⟨x.block, x.off + 1, none⟩ = some (.int .u8 z1)) (c2 : w.cell? ⟨x.block, x.off + 2, none⟩ = some (.int .u8 z2)) (hz0 : 0 ≤ z0 ∧ z0 < 256) (hz1 : 0 ≤ z1 ∧ z1 < 256) (hz2 : 0 ≤ z2 ∧ z2 < 256) (z3 : Int) (c3 : w.cell? ⟨x.block, x.off + 3, none⟩ = some (.int .u8 z3)) (hz3 : 0 ≤ z3 ∧ z3 < 256) (hl : len = 4) (hm : z2 % 64 = 1) : Calls Try.prog 16 #[.slice (some x) len cap] w fun e w' => e = .returned (.tuple #[.agg #[.int .u8 (z0 % 128), .int .u8 (z1 % 128), .bool (decide (128 ≤ z0)), .bool (decide (128 ≤ z1)), .int .u8 1, .int .u8 (z3 % 8), .bool false, .slice none 0 0], .int .i64 0]) ∧ Below w.heap.size w w' := by
  subst hl
  have hlt := World.block_lt_of_cell? _ _ c0
  have n0 : x.block ≠ w.heap.size := by omega
  have n1 : x.block ≠ w.heap.size + 1 := by omega
  have h63 := and63 z2 hz2.1 hz2.2
  rw [hm] at h63
  have h7 := and7 z3 hz3.1 hz3.2
  go_enter Try.func16, Try.ntmps16
  go_upto_region 5 with fail
  go_region
  go_upto_region 6 with fail
  go_region
  all_goals (go_upto_region 14 with fail)
  all_goals go_region
  all_goals go_wp2
  all_goals (refine bodyPost_ret (v := .tuple #[.agg #[.int .u8 (z0 % 128), .int .u8 (z1 % 128), .bool (decide (128 ≤ z0)), .bool (decide (128 ≤ z1)), .int .u8 1, .int .u8 (z3 % 8), .bool false, .slice none 0 0], .int .i64 0]) (by simp [results, Try.results16, go_sem]) rfl ?_)
  all_goals exact ⟨rfl, below_drewN (((Below.refl _ _).alloc (Nat.le_refl _) _).alloc (by simp) _) 3⟩
theorem udec_2 (x : Addr) (len cap : Nat) (z0 z1 z2 : Int) (w : World) (h3 : 3 ≤ len) (h276 : len ≤ 276) (hcap : len ≤ cap) (c0 : w.cell? x = some (.int .u8 z0)) (c1 : w.cell? ⟨x.block, x.off + 1, none⟩ = some (.int .u8 z1)) (c2 : w.cell? ⟨x.block, x.off + 2, none⟩ = some (.int .u8 z2)) (hz0 : 0 ≤ z0 ∧ z0 < 256) (hz1 : 0 ≤ z1 ∧ z1 < 256) (hz2 : 0 ≤ z2 ∧ z2 < 256) (z3 : Int) (c3 : w.cell? ⟨x.block, x.off + 3, none⟩ = some (.int .u8 z3)) (hz3 : 0 ≤ z3 ∧ z3 < 256) (hl : len = 5) (hm : z2 % 64 = 2) : Calls Try.prog 16 #[.slice (some x) len cap] w fun e w' => e = .returned (.tuple #[.agg #[.int .u8 (z0 % 128), .int .u8 (z1 % 128), .bool (decide (128 ≤ z0)), .bool (decide (128 ≤ z1)), .int .u8 1, .int .u8 (z3 % 8), .bool true, .slice none 0 0], .int .i64 0]) ∧ Below w.heap.size w w' := by
  subst hl
  have hlt := World.block_lt_of_cell? _ _ c0
  have n0 : x.block ≠ w.heap.size := by omega
  have n1 : x.block ≠ w.heap.size + 1 := by omega
  have h63 := and63 z2 hz2.1 hz2.2
  rw [hm] at h63
  have h7 := and7 z3 hz3.1 hz3.2
  go_enter Try.func16, Try.ntmps16
  go_upto_region 5 with fail
  go_region
  go_upto_region 6 with fail
  go_region
  all_goals (go_upto_region 14 with fail)
  all_goals go_region
  all_goals go_wp2
  all_goals (refine bodyPost_ret (v := .tuple #[.agg #[.int .u8 (z0 % 128), .int .u8 (z1 % 128), .bool (decide (128 ≤ z0)), .bool (decide (128 ≤ z1)), .int .u8 1, .int .u8 (z3 % 8), .bool true, .slice none 0 0], .int .i64 0]) (by simp [results, Try.results16, go_sem]) rfl ?_)
  all_goals exact ⟨rfl, below_drewN (((Below.refl _ _).alloc (Nat.le_refl _) _).alloc (by simp) _) 3⟩
theorem udec_more_a (zs : List Int) (x : Addr) (len cap : Nat) (z0 z1 z2 : Int) (w : World) (h3 : 3 ≤ len) (h276 : len ≤ 276) (hcap : len ≤ cap) (c0 : w.cell? x = some (.int .u8 z0)) (c1 : w.cell? ⟨x.block, x.off + 1, none⟩ = some (.int .u8 z1)) (c2 : w.cell? ⟨x.block, x.off + 2, none⟩ = some (.int .u8 z2)) (hz0 : 0 ≤ z0 ∧ z0 < 256) (hz1 : 0 ≤ z1 ∧ z1 < 256) (hz2 : 0 ≤ z2 ∧ z2 < 256) (h6 : 6 ≤ len) (hk : ¬ (63 < len - 3)) (hm : z2 % 64 = ((len - 3 : Nat) : Int)) (hr : Row w (some ⟨x.block, x.off + 3, none⟩) (len - 3) zs) : Calls Try.prog 16 #[.slice (some x) len cap] w fun e w' => ∃ g c, e = .returned (.tuple #[.agg #[.int .u8 (z0 % 128), .int .u8 (z1 % 128), .bool (decide (128 ≤ z0)), .bool (decide (128 ≤ z1)), .int .u8 2, .int .u8 0, .bool false, .slice (some ⟨g, 0, none⟩) (len - 3) c], .int .i64 0]) ∧ Below w.heap.size w w' ∧ Row w' (some ⟨g, 0, none⟩) (len - 3) zs := by
  have hlt := World.block_lt_of_cell? _ _ c0
  have n0 : x.block ≠ w.heap.size := by omega
  have n1 : x.block ≠ w.heap.size + 1 := by omega
  have h63 := and63 z2 hz2.1 hz2.2
  have g1 : ¬ (63 : Int) < ((len - 3 : Nat) : Int) := by omega
  obtain ⟨y, hy, hy0, hy1⟩ : ∃ y, z2 % 64 = y ∧ 0 ≤ y ∧ y < 64 := ⟨_, rfl, by omega, by omega⟩
  rw [hy] at hm h63
  clear hy
  have hw : wrap64 y = y := by unfold wrap64; omega
  have g2 : (y == ((len - 3 : Nat) : Int)) = true := by simp; omega
  have g3 : (y != ((len - 3 : Nat) : Int)) = false := by simp; omega
  clear hm
  have g4 : ¬ ((len : Int) < 3) := by omega
  have g5 : ¬ ((276 : Int) < len) := by omega
  have g6 : (((len - 3 : Nat) : Int) == 1) = false := by simp; omega
  have g7 : (((len - 3 : Nat) : Int) == 2) = false := by simp; omega
  have g8 : (((len - 3 : Nat) : Int) == 0) = false := by simp; omega
  have m1 : 0 < len - 3 := by omega
  have m2 : len - 3 ≤ 400 := by omega
  have g9 : wrap64 ((len - 3 : Nat) : Int) = ((len - 3 : Nat) : Int) := by unfold wrap64; omega
  have hA2 : Below w.heap.size w ((w.alloc (.cells #[.int .u8 0, .int .u8 0, .bool false, .bool false, .int .u8 0, .int .u8 0, .bool false, .slice none 0 0] 24)).alloc (.cells #[.int .u8 (z0 % 128), .int .u8 (z1 % 128), .bool (decide (128 ≤ z0)), .bool (decide (128 ≤ z1)), .int .u8 0, .int .u8 0, .bool false, .slice none 0 0] 24)).drew.drew := below_drewN (((Below.refl _ _).alloc (Nat.le_refl _) _).alloc (by simp) _) 2
  have hres : Blk ((w.alloc (.cells #[.int .u8 0, .int .u8 0, .bool false, .bool false, .int .u8 0, .int .u8 0, .bool false, .slice none 0 0] 24)).alloc (.cells #[.int .u8 (z0 % 128), .int .u8 (z1 % 128), .bool (decide (128 ≤ z0)), .bool (decide (128 ≤ z1)), .int .u8 0, .int .u8 0, .bool false, .slice none 0 0] 24)).drew.drew w.heap.size [.int .u8 0, .int .u8 0, .bool false, .bool false, .int .u8 0, .int .u8 0, .bool false, .slice none 0 0] 24 := (Blk.new w [.int .u8 0, .int .u8 0, .bool false, .bool false, .int .u8 0, .int .u8 0, .bool false, .slice none 0 0] 24).alloc (.cells #[.int .u8 (z0 % 128), .int .u8 (z1 % 128), .bool (decide (128 ≤ z0)), .bool (decide (128 ≤ z1)), .int .u8 0, .int .u8 0, .bool false, .slice none 0 0] 24)
  have hu : Blk ((w.alloc (.cells #[.int .u8 0, .int .u8 0, .bool false, .bool false, .int .u8 0, .int .u8 0, .bool false, .slice none 0 0] 24)).alloc (.cells #[.int .u8 (z0 % 128), .int .u8 (z1 % 128), .bool (decide (128 ≤ z0)), .bool (decide (128 ≤ z1)), .int .u8 0, .int .u8 0, .bool false, .slice none 0 0] 24)).drew.drew (w.heap.size + 1) [.int .u8 (z0 % 128), .int .u8 (z1 % 128), .bool (decide (128 ≤ z0)), .bool (decide (128 ≤ z1)), .int .u8 0, .int .u8 0, .bool false, .slice none 0 0] 24 := by
    have := Blk.new (w.alloc (.cells #[.int .u8 0, .int .u8 0, .bool false, .bool false, .int .u8 0, .int .u8 0, .bool false, .slice none 0 0] 24)) [.int .u8 (z0 % 128), .int .u8 (z1 % 128), .bool (decide (128 ≤ z0)), .bool (decide (128 ≤ z1)), .int .u8 0, .int .u8 0, .bool false, .slice none 0 0] 24
    rw [World.size_alloc] at this
    exact this
  go_enter Try.func16, Try.ntmps16
  go_upto_region 5 with fail
  go_region
  go_upto_region 6 with fail
  go_region
  all_goals (go_upto_region 10 with fail)
  all_goals (generalize hWW : ((w.alloc (.cells #[.int .u8 0, .int .u8 0, .bool false, .bool false, .int .u8 0, .int .u8 0, .bool false, .slice none 0 0] 24)).alloc (.cells #[.int .u8 (z0 % 128), .int .u8 (z1 % 128), .bool (decide (128 ≤ z0)), .bool (decide (128 ≤ z1)), .int .u8 0, .int .u8 0, .bool false, .slice none 0 0] 24)).drew.drew = W at *)
  all_goals clear hWW
  all_goals (refine ?_)
  all_goals (have hRW := hr.below hA2)
  all_goals (have huW := hu.lt)
  all_goals (have hzs := hr.2.1)
  all_goals go_wp2_with fail
  all_goals (refine (clone_is _ _ _ zs _ m1 m2 hRW).mono ?_)
  all_goals (rintro e w5 ⟨g, c, rfl, hb5, hown⟩)
  all_goals (have hB5 := bthen hA2 hb5)
  all_goals (have hres5 := hres.below hb5)
  all_goals (have hu5 := hu.below hb5)
  all_goals (clear hb5 hres hu hA2 hRW)
  all_goals (have d0 := hu5.cell 0 rfl)
  all_goals (have d1 := hu5.cell 1 rfl)
  all_goals (have d2 := hu5.cell 2 rfl)
  all_goals (have d3 := hu5.cell 3 rfl)
  all_goals (have d4 := hu5.cell 4 rfl)
  all_goals (have d5 := hu5.cell 5 rfl)
  all_goals (have d6 := hu5.cell 6 rfl)
  all_goals (have d7 := hu5.cell 7 rfl)
  all_goals (have e4 := hu5.frozen 4)
  all_goals (have e7 := hu5.frozen 7)
  all_goals (go_upto_region 15 with fail)
  all_goals (have hrow5 := own_row hown hzs)
  all_goals (have hg : w.heap.size + 1 < g := by obtain ⟨_, hh | ⟨g', _, _, he, hh, _⟩⟩ := hown; · cases hh.1
                                                 · cases he; exact Nat.lt_of_lt_of_le huW hh)
  all_goals (have hF : Fr (fun k => k = w.heap.size + 1) w5 ((w5.setCell ⟨w.heap.size + 1, 4, none⟩ (.int .u8 2)).setCell ⟨w.heap.size + 1, 7, none⟩ (.slice (some ⟨g, 0, none⟩) (len - 3) c)) := (Fr.set1 w5 ⟨w.heap.size + 1, 4, none⟩ _).setCell (p := ⟨w.heap.size + 1, 7, none⟩) (.inl rfl) _)
  all_goals (have hrow7 := hrow5.fr hF (by show ¬ (g = w.heap.size + 1); omega))
  all_goals (have hu7 := (hu5.set 4 (.int .u8 2)).set 7 (.slice (some ⟨g, 0, none⟩) (len - 3) c))
  all_goals (have hres7 := hres5.fr hF (by show ¬ (w.heap.size = w.heap.size + 1); omega))
  all_goals (have hB7 := hB5.trans (hF.below hB5.size (fun k hk => by rw [hk]; omega)))
  all_goals (clear d0 d1 d2 d3 d4 d5 d6 d7 e4 e7 hB5 hrow5 hu5 hres5 hF hown)
  all_goals (generalize (w5.setCell ⟨w.heap.size + 1, 4, none⟩ (.int .u8 2)).setCell ⟨w.heap.size + 1, 7, none⟩ (.slice (some ⟨g, 0, none⟩) (len - 3) c) = w7 at *)
  all_goals (have d0 := hu7.cell 0 rfl)
  all_goals (have d1 := hu7.cell 1 rfl)
  all_goals (have d2 := hu7.cell 2 rfl)
  all_goals (have d3 := hu7.cell 3 rfl)
  all_goals (have d4 := hu7.cell 4 rfl)
  all_goals (have d5 := hu7.cell 5 rfl)
  all_goals (have d6 := hu7.cell 6 rfl)
  all_goals (have d7 := hu7.cell 7 rfl)
  all_goals (clear hu7)
  all_goals (have hres8 := hres7.row [.int .u8 (z0 % 128), .int .u8 (z1 % 128), .bool (decide (128 ≤ z0)), .bool (decide (128 ≤ z1)), .int .u8 2, .int .u8 0, .bool false, .slice (some ⟨g, 0, none⟩) (len - 3) c])
  all_goals (have hB8 := below_row hB7 (Nat.le_refl _) #[.int .u8 (z0 % 128), .int .u8 (z1 % 128), .bool (decide (128 ≤ z0)), .bool (decide (128 ≤ z1)), .int .u8 2, .int .u8 0, .bool false, .slice (some ⟨g, 0, none⟩) (len - 3) c])
  all_goals (have hrow8 := hrow7.fr (Fr.row1 w7 w.heap.size #[.int .u8 (z0 % 128), .int .u8 (z1 % 128), .bool (decide (128 ≤ z0)), .bool (decide (128 ≤ z1)), .int .u8 2, .int .u8 0, .bool false, .slice (some ⟨g, 0, none⟩) (len - 3) c]) (by show ¬ (g = w.heap.size); omega))
  all_goals (go_wp2_with (refine wpList_store_row rfl 24 (.tmp 2) (.tmp 68) rfl w.heap.size #[.int .u8 (z0 % 128), .int .u8 (z1 % 128), .bool (decide (128 ≤ z0)), .bool (decide (128 ≤ z1)), .int .u8 2, .int .u8 0, .bool false, .slice (some ⟨g, 0, none⟩) (len - 3) c] rfl rfl 24 _ hres7 (by kernel_rfl) rfl (by simp [Value.oneCell']) ?_))
  all_goals (replace hres8 : Blk (w7.setRow w.heap.size #[.int .u8 (z0 % 128), .int .u8 (z1 % 128), .bool (decide (128 ≤ z0)), .bool (decide (128 ≤ z1)), .int .u8 2, .int .u8 0, .bool false, .slice (some ⟨g, 0, none⟩) (len - 3) c]) w.heap.size [.int .u8 (z0 % 128), .int .u8 (z1 % 128), .bool (decide (128 ≤ z0)), .bool (decide (128 ≤ z1)), .int .u8 2, .int .u8 0, .bool false, .slice (some ⟨g, 0, none⟩) (len - 3) c] 24 := hres8)
  all_goals (generalize w7.setRow w.heap.size #[.int .u8 (z0 % 128), .int .u8 (z1 % 128), .bool (decide (128 ≤ z0)), .bool (decide (128 ≤ z1)), .int .u8 2, .int .u8 0, .bool false, .slice (some ⟨g, 0, none⟩) (len - 3) c] = w8 at *)
  all_goals (have r0 := hres8.cell 0 rfl)
  all_goals (have r1 := hres8.cell 1 rfl)
  all_goals (have r2 := hres8.cell 2 rfl)
  all_goals (have r3 := hres8.cell 3 rfl)
  all_goals (have r4 := hres8.cell 4 rfl)
  all_goals (have r5 := hres8.cell 5 rfl)
  all_goals (have r6 := hres8.cell 6 rfl)
  all_goals (have r7 := hres8.cell 7 rfl)
  all_goals (refine bodyPost_ret (v := .tuple #[.agg #[.int .u8 (z0 % 128), .int .u8 (z1 % 128), .bool (decide (128 ≤ z0)), .bool (decide (128 ≤ z1)), .int .u8 2, .int .u8 0, .bool false, .slice (some ⟨g, 0, none⟩) (len - 3) c], .int .i64 0]) (by simp [results, Try.results16, go_sem, r0, r1, r2, r3, r4, r5, r6, r7]) rfl ?_)
  all_goals exact ⟨g, c, rfl, hB8, hrow8⟩
theorem udec_more_b (zs : List Int) (x : Addr) (len cap : Nat) (z0 z1 z2 : Int) (w : World) (h3 : 3 ≤ len) (h276 : len ≤ 276) (hcap : len ≤ cap) (c0 : w.cell? x = some (.int .u8 z0)) (c1 : w.cell? ⟨x.block, x.off + 1, none⟩ = some (.int .u8 z1)) (c2 : w.cell? ⟨x.block, x.off + 2, none⟩ = some (.int .u8 z2)) (hz0 : 0 ≤ z0 ∧ z0 < 256) (hz1 : 0 ≤ z1 ∧ z1 < 256) (hz2 : 0 ≤ z2 ∧ z2 < 256) (h6 : 6 ≤ len) (hk : 63 < len - 3) (hm : z2 % 64 = 63) (hr : Row w (some ⟨x.block, x.off + 3, none⟩) (len - 3) zs) : Calls Try.prog 16 #[.slice (some x) len cap] w fun e w' => ∃ g c, e = .returned (.tuple #[.agg #[.int .u8 (z0 % 128), .int .u8 (z1 % 128), .bool (decide (128 ≤ z0)), .bool (decide (128 ≤ z1)), .int .u8 2, .int .u8 0, .bool false, .slice (some ⟨g, 0, none⟩) (len - 3) c], .int .i64 0]) ∧ Below w.heap.size w w' ∧ Row w' (some ⟨g, 0, none⟩) (len - 3) zs := by
  have hlt := World.block_lt_of_cell? _ _ c0
  have n0 : x.block ≠ w.heap.size := by omega
  have n1 : x.block ≠ w.heap.size + 1 := by omega
  have h63 := and63 z2 hz2.1 hz2.2
  rw [hm] at h63
  have g1 : (63 : Int) < ((len - 3 : Nat) : Int) := by omega
  have g4 : ¬ ((len : Int) < 3) := by omega
  have g5 : ¬ ((276 : Int) < len) := by omega
  have g6 : (((len - 3 : Nat) : Int) == 1) = false := by simp; omega
  have g7 : (((len - 3 : Nat) : Int) == 2) = false := by simp; omega
  have g8 : (((len - 3 : Nat) : Int) == 0) = false := by simp; omega
  have m1 : 0 < len - 3 := by omega
  have m2 : len - 3 ≤ 400 := by omega
  have g9 : wrap64 ((len - 3 : Nat) : Int) = ((len - 3 : Nat) : Int) := by unfold wrap64; omega
  have hA2 : Below w.heap.size w ((w.alloc (.cells #[.int .u8 0, .int .u8 0, .bool false, .bool false, .int .u8 0, .int .u8 0, .bool false, .slice none 0 0] 24)).alloc (.cells #[.int .u8 (z0 % 128), .int .u8 (z1 % 128), .bool (decide (128 ≤ z0)), .bool (decide (128 ≤ z1)), .int .u8 0, .int .u8 0, .bool false, .slice none 0 0] 24)).drew.drew := below_drewN (((Below.refl _ _).alloc (Nat.le_refl _) _).alloc (by simp) _) 2
  have hres : Blk ((w.alloc (.cells #[.int .u8 0, .int .u8 0, .bool false, .bool false, .int .u8 0, .int .u8 0, .bool false, .slice none 0 0] 24)).alloc (.cells #[.int .u8 (z0 % 128), .int .u8 (z1 % 128), .bool (decide (128 ≤ z0)), .bool (decide (128 ≤ z1)), .int .u8 0, .int .u8 0, .bool false, .slice none 0 0] 24)).drew.drew w.heap.size [.int .u8 0, .int .u8 0, .bool false, .bool false, .int .u8 0, .int .u8 0, .bool false, .slice none 0 0] 24 := (Blk.new w [.int .u8 0, .int .u8 0, .bool false, .bool false, .int .u8 0, .int .u8 0, .bool false, .slice none 0 0] 24).alloc (.cells #[.int .u8 (z0 % 128), .int .u8 (z1 % 128), .bool (decide (128 ≤ z0)), .bool (decide (128 ≤ z1)), .int .u8 0, .int .u8 0, .bool false, .slice none 0 0] 24)
  have hu : Blk ((w.alloc (.cells #[.int .u8 0, .int .u8 0, .bool false, .bool false, .int .u8 0, .int .u8 0, .bool false, .slice none 0 0] 24)).alloc (.cells #[.int .u8 (z0 % 128), .int .u8 (z1 % 128), .bool (decide (128 ≤ z0)), .bool (decide (128 ≤ z1)), .int .u8 0, .int .u8 0, .bool false, .slice none 0 0] 24)).drew.drew (w.heap.size + 1) [.int .u8 (z0 % 128), .int .u8 (z1 % 128), .bool (decide (128 ≤ z0)), .bool (decide (128 ≤ z1)), .int .u8 0, .int .u8 0, .bool false, .slice none 0 0] 24 := by
    have := Blk.new (w.alloc (.cells #[.int .u8 0, .int .u8 0, .bool false, .bool false, .int .u8 0, .int .u8 0, .bool false, .slice none 0 0] 24)) [.int .u8 (z0 % 128), .int .u8 (z1 % 128), .bool (decide (128 ≤ z0)), .bool (decide (128 ≤ z1)), .int .u8 0, .int .u8 0, .bool false, .slice none 0 0] 24
    rw [World.size_alloc] at this
    exact this
  go_enter Try.func16, Try.ntmps16
  go_upto_region 5 with fail
  go_region
  go_upto_region 6 with fail
  go_region
  all_goals (go_upto_region 10 with fail)
  all_goals (generalize hWW : ((w.alloc (.cells #[.int .u8 0, .int .u8 0, .bool false, .bool false, .int .u8 0, .int .u8 0, .bool false, .slice none 0 0] 24)).alloc (.cells #[.int .u8 (z0 % 128), .int .u8 (z1 % 128), .bool (decide (128 ≤ z0)), .bool (decide (128 ≤ z1)), .int .u8 0, .int .u8 0, .bool false, .slice none 0 0] 24)).drew.drew = W at *)
  all_goals clear hWW
  all_goals (refine ?_)
  all_goals (have hRW := hr.below hA2)
  all_goals (have huW := hu.lt)
  all_goals (have hzs := hr.2.1)
  all_goals go_wp2_with fail
  all_goals (refine (clone_is _ _ _ zs _ m1 m2 hRW).mono ?_)
  all_goals (rintro e w5 ⟨g, c, rfl, hb5, hown⟩)
  all_goals (have hB5 := bthen hA2 hb5)
  all_goals (have hres5 := hres.below hb5)
  all_goals (have hu5 := hu.below hb5)
  all_goals (clear hb5 hres hu hA2 hRW)
  all_goals (have d0 := hu5.cell 0 rfl)
  all_goals (have d1 := hu5.cell 1 rfl)
  all_goals (have d2 := hu5.cell 2 rfl)
  all_goals (have d3 := hu5.cell 3 rfl)
  all_goals (have d4 := hu5.cell 4 rfl)
  all_goals (have d5 := hu5.cell 5 rfl)
  all_goals (have d6 := hu5.cell 6 rfl)
  all_goals (have d7 := hu5.cell 7 rfl)
  all_goals (have e4 := hu5.frozen 4)
  all_goals (have e7 := hu5.frozen 7)
  all_goals (go_upto_region 15 with fail)
  all_goals (have hrow5 := own_row hown hzs)
  all_goals (have hg : w.heap.size + 1 < g := by obtain ⟨_, hh | ⟨g', _, _, he, hh, _⟩⟩ := hown; · cases hh.1
                                                 · cases he; exact Nat.lt_of_lt_of_le huW hh)
  all_goals (have hF : Fr (fun k => k = w.heap.size + 1) w5 ((w5.setCell ⟨w.heap.size + 1, 4, none⟩ (.int .u8 2)).setCell ⟨w.heap.size + 1, 7, none⟩ (.slice (some ⟨g, 0, none⟩) (len - 3) c)) := (Fr.set1 w5 ⟨w.heap.size + 1, 4, none⟩ _).setCell (p := ⟨w.heap.size + 1, 7, none⟩) (.inl rfl) _)
  all_goals (have hrow7 := hrow5.fr hF (by show ¬ (g = w.heap.size + 1); omega))
  all_goals (have hu7 := (hu5.set 4 (.int .u8 2)).set 7 (.slice (some ⟨g, 0, none⟩) (len - 3) c))
  all_goals (have hres7 := hres5.fr hF (by show ¬ (w.heap.size = w.heap.size + 1); omega))
  all_goals (have hB7 := hB5.trans (hF.below hB5.size (fun k hk => by rw [hk]; omega)))
  all_goals (clear d0 d1 d2 d3 d4 d5 d6 d7 e4 e7 hB5 hrow5 hu5 hres5 hF hown)
  all_goals (generalize (w5.setCell ⟨w.heap.size + 1, 4, none⟩ (.int .u8 2)).setCell ⟨w.heap.size + 1, 7, none⟩ (.slice (some ⟨g, 0, none⟩) (len - 3) c) = w7 at *)
  all_goals (have d0 := hu7.cell 0 rfl)
  all_goals (have d1 := hu7.cell 1 rfl)
  all_goals (have d2 := hu7.cell 2 rfl)
  all_goals (have d3 := hu7.cell 3 rfl)
  all_goals (have d4 := hu7.cell 4 rfl)
  all_goals (have d5 := hu7.cell 5 rfl)
  all_goals (have d6 := hu7.cell 6 rfl)
  all_goals (have d7 := hu7.cell 7 rfl)
  all_goals (clear hu7)
  all_goals (have hres8 := hres7.row [.int .u8 (z0 % 128), .int .u8 (z1 % 128), .bool (decide (128 ≤ z0)), .bool (decide (128 ≤ z1)), .int .u8 2, .int .u8 0, .bool false, .slice (some ⟨g, 0, none⟩) (len - 3) c])
  all_goals (have hB8 := below_row hB7 (Nat.le_refl _) #[.int .u8 (z0 % 128), .int .u8 (z1 % 128), .bool (decide (128 ≤ z0)), .bool (decide (128 ≤ z1)), .int .u8 2, .int .u8 0, .bool false, .slice (some ⟨g, 0, none⟩) (len - 3) c])
  all_goals (have hrow8 := hrow7.fr (Fr.row1 w7 w.heap.size #[.int .u8 (z0 % 128), .int .u8 (z1 % 128), .bool (decide (128 ≤ z0)), .bool (decide (128 ≤ z1)), .int .u8 2, .int .u8 0, .bool false, .slice (some ⟨g, 0, none⟩) (len - 3) c]) (by show ¬ (g = w.heap.size); omega))
  all_goals (go_wp2_with (refine wpList_store_row rfl 24 (.tmp 2) (.tmp 68) rfl w.heap.size #[.int .u8 (z0 % 128), .int .u8 (z1 % 128), .bool (decide (128 ≤ z0)), .bool (decide (128 ≤ z1)), .int .u8 2, .int .u8 0, .bool false, .slice (some ⟨g, 0, none⟩) (len - 3) c] rfl rfl 24 _ hres7 (by kernel_rfl) rfl (by simp [Value.oneCell']) ?_))
  all_goals (replace hres8 : Blk (w7.setRow w.heap.size #[.int .u8 (z0 % 128), .int .u8 (z1 % 128), .bool (decide (128 ≤ z0)), .bool (decide (128 ≤ z1)), .int .u8 2, .int .u8 0, .bool false, .slice (some ⟨g, 0, none⟩) (len - 3) c]) w.heap.size [.int .u8 (z0 % 128), .int .u8 (z1 % 128), .bool (decide (128 ≤ z0)), .bool (decide (128 ≤ z1)), .int .u8 2, .int .u8 0, .bool false, .slice (some ⟨g, 0, none⟩) (len - 3) c] 24 := hres8)
  all_goals (generalize w7.setRow w.heap.size #[.int .u8 (z0 % 128), .int .u8 (z1 % 128), .bool (decide (128 ≤ z0)), .bool (decide (128 ≤ z1)), .int .u8 2, .int .u8 0, .bool false, .slice (some ⟨g, 0, none⟩) (len - 3) c] = w8 at *)
  all_goals (have r0 := hres8.cell 0 rfl)
  all_goals (have r1 := hres8.cell 1 rfl)
  all_goals (have r2 := hres8.cell 2 rfl)
  all_goals (have r3 := hres8.cell 3 rfl)
  all_goals (have r4 := hres8.cell 4 rfl)
  all_goals (have r5 := hres8.cell 5 rfl)
  all_goals (have r6 := hres8.cell 6 rfl)
  all_goals (have r7 := hres8.cell 7 rfl)
  all_goals (refine bodyPost_ret (v := .tuple #[.agg #[.int .u8 (z0 % 128), .int .u8 (z1 % 128), .bool (decide (128 ≤ z0)), .bool (decide (128 ≤ z1)), .int .u8 2, .int .u8 0, .bool false, .slice (some ⟨g, 0, none⟩) (len - 3) c], .int .i64 0]) (by simp [results, Try.results16, go_sem, r0, r1, r2, r3, r4, r5, r6, r7]) rfl ?_)
  all_goals exact ⟨g, c, rfl, hB8, hrow8⟩
end Go.Proofs.Ytpgalefpccgpfaa
