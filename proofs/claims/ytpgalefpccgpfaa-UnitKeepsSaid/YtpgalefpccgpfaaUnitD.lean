/-
  Units: what octets are one?
-/
import Derived.Test.YtpgalefpccgpfaaUnitS
namespace Go.Proofs.Ytpgalefpccgpfaa
open Go.RowKit
set_option linter.unusedVariables false
set_option linter.unusedSimpArgs false

theorem and63 (z : Int) (h0 : 0 ≤ z) (h1 : z < 256) : bits .and .u8 z 63 = z % 64 := by
  have h : ∀ n : Fin 256, bits .and .u8 (n.val : Int) 63 = (n.val : Int) % 64 := by decide +kernel
  have := h ⟨z.toNat, by omega⟩
  simpa [Int.toNat_of_nonneg h0] using this
theorem and7 (z : Int) (h0 : 0 ≤ z) (h1 : z < 256) : bits .and .u8 z 7 = z % 8 := by
  have h : ∀ n : Fin 256, bits .and .u8 (n.val : Int) 7 = (n.val : Int) % 8 := by decide +kernel
  have := h ⟨z.toNat, by omega⟩
  simpa [Int.toNat_of_nonneg h0] using this

theorem udec_short (a : Option Addr) (len cap : Nat) (w : World) (h : len < 3) : Calls Try.prog 16 #[.slice a len cap] w fun e w' => e = .returned (.tuple #[.agg #[.int .u8 0, .int .u8 0, .bool false, .bool false, .int .u8 0, .int .u8 0, .bool false, .slice none 0 0], .int .i64 5]) ∧ Below w.heap.size w w' := by
  have h1 : ((len : Int) < 3) := by omega
  go_enter Try.func16, Try.ntmps16
  go_wp2
  refine bodyPost_ret (v := .tuple #[.agg #[.int .u8 0, .int .u8 0, .bool false, .bool false, .int .u8 0, .int .u8 0, .bool false, .slice none 0 0], .int .i64 5]) (by simp [results, Try.results16, go_sem]) rfl ?_
  exact ⟨rfl, (Below.refl _ _).alloc (Nat.le_refl _) _⟩
theorem rdec_short (a : Option Addr) (len cap : Nat) (w : World) (h : len < 3) : Calls Try.prog 17 #[.slice a len cap] w fun e w' => e = .returned (.tuple #[.agg #[.int .u8 0, .int .u8 0, .bool false, .bool false, .int .u8 0, .int .u8 0, .bool false, .slice none 0 0], .int .i64 5]) ∧ Below w.heap.size w w' := by
  have h1 : ((len : Int) < 3) := by omega
  go_enter Try.func17, Try.ntmps17
  go_wp2
  refine bodyPost_ret (v := .tuple #[.agg #[.int .u8 0, .int .u8 0, .bool false, .bool false, .int .u8 0, .int .u8 0, .bool false, .slice none 0 0], .int .i64 5]) (by simp [results, Try.results17, go_sem]) rfl ?_
  exact ⟨rfl, ((Below.refl _ _).alloc (Nat.le_refl _) _).alloc (by simp) _⟩

theorem rdec_form_a (x : Addr) (len cap : Nat) (z0 z1 z2 : Int) (w : World) (h3 : 3 ≤ len) (h276 : len ≤ 276) (hcap : len ≤ cap) (c0 : w.cell? x = some (.int .u8 z0)) (c1 : w.cell? ⟨x.block, x.off + 1, none⟩ = some (.int .u8 z1)) (c2 : w.cell? ⟨x.block, x.off + 2, none⟩ = some (.int .u8 z2)) (hz0 : 0 ≤ z0 ∧ z0 < 256) (hz1 : 0 ≤ z1 ∧ z1 < 256) (hz2 : 0 ≤ z2 ∧ z2 < 256) (hk : ¬ (63 < len - 3)) (hm : z2 % 64 ≠ (len : Int) - 3) : Calls Try.prog 17 #[.slice (some x) len cap] w fun e w' => e = .returned (.tuple #[.agg #[.int .u8 0, .int .u8 0, .bool false, .bool false, .int .u8 0, .int .u8 0, .bool false, .slice none 0 0], .int .i64 4]) ∧ Below w.heap.size w w' := by
  have hlt := World.block_lt_of_cell? _ _ c0
  have n0 : x.block ≠ w.heap.size := by omega
  have n1 : x.block ≠ w.heap.size + 1 := by omega
  have g1 : ¬ (63 : Int) < (len : Int) - 3 := by omega
  have g2 : ((z2 % 64) == ((len : Int) - 3)) = false := by simp; omega
  have g3 : ((z2 % 64) != ((len : Int) - 3)) = true := by simp; omega
  have g4 : ¬ ((len : Int) < 3) := by omega
  have g5 : ¬ ((276 : Int) < len) := by omega
  go_enter Try.func17, Try.ntmps17
  go_wp2
  refine bodyPost_ret (v := .tuple #[.agg #[.int .u8 0, .int .u8 0, .bool false, .bool false, .int .u8 0, .int .u8 0, .bool false, .slice none 0 0], .int .i64 4]) (by simp [results, Try.results17, go_sem]) rfl ?_
  exact ⟨rfl, ((Below.refl _ _).alloc (Nat.le_refl _) _).alloc (by simp) _⟩
theorem rdec_form_b (x : Addr) (len cap : Nat) (z0 z1 z2 : Int) (w : World) (h3 : 3 ≤ len) (h276 : len ≤ 276) (hcap : len ≤ cap) (c0 : w.cell? x = some (.int .u8 z0)) (c1 : w.cell? ⟨x.block, x.off + 1, none⟩ = some (.int .u8 z1)) (c2 : w.cell? ⟨x.block, x.off + 2, none⟩ = some (.int .u8 z2)) (hz0 : 0 ≤ z0 ∧ z0 < 256) (hz1 : 0 ≤ z1 ∧ z1 < 256) (hz2 : 0 ≤ z2 ∧ z2 < 256) (hk : 63 < len - 3) (hm : z2 % 64 ≠ 63) : Calls Try.prog 17 #[.slice (some x) len cap] w fun e w' => e = .returned (.tuple #[.agg #[.int .u8 0, .int .u8 0, .bool false, .bool false, .int .u8 0, .int .u8 0, .bool false, .slice none 0 0], .int .i64 4]) ∧ Below w.heap.size w w' := by
  have hlt := World.block_lt_of_cell? _ _ c0
  have n0 : x.block ≠ w.heap.size := by omega
  have n1 : x.block ≠ w.heap.size + 1 := by omega
  have g1 : (63 : Int) < (len : Int) - 3 := by omega
  have g2 : ((z2 % 64) == 63) = false := by simp; omega
  have g3 : ((z2 % 64) != 63) = true := by simp; omega
  have g4 : ¬ ((len : Int) < 3) := by omega
  have g5 : ¬ ((276 : Int) < len) := by omega
  go_enter Try.func17, Try.ntmps17
  go_wp2
  refine bodyPost_ret (v := .tuple #[.agg #[.int .u8 0, .int .u8 0, .bool false, .bool false, .int .u8 0, .int .u8 0, .bool false, .slice none 0 0], .int .i64 4]) (by simp [results, Try.results17, go_sem]) rfl ?_
  exact ⟨rfl, ((Below.refl _ _).alloc (Nat.le_refl _) _).alloc (by simp) _⟩
theorem rdec_0 (x : Addr) (len cap : Nat) (z0 z1 z2 : Int) (w : World) (h3 : 3 ≤ len) (h276 : len ≤ 276) (hcap : len ≤ cap) (c0 : w.cell? x = some (.int .u8 z0)) (c1 : w.cell? ⟨x.block, x.off + 1, none⟩ = some (.int .u8 z1)) (c2 : w.cell? ⟨x.block, x.off + 2, none⟩ = some (.int .u8 z2)) (hz0 : 0 ≤ z0 ∧ z0 < 256) (hz1 : 0 ≤ z1 ∧ z1 < 256) (hz2 : 0 ≤ z2 ∧ z2 < 256) (hl : len = 3) (hm : z2 % 64 = 0) : Calls Try.prog 17 #[.slice (some x) len cap] w fun e w' => e = .returned (.tuple #[.agg #[.int .u8 (z0 % 128), .int .u8 (z1 % 128), .bool (decide (127 < z0)), .bool (decide (127 < z1)), .int .u8 0, .int .u8 0, .bool false, .slice none 0 0], .int .i64 0]) ∧ Below w.heap.size w w' := by
  subst hl
  have hlt := World.block_lt_of_cell? _ _ c0
  have n0 : x.block ≠ w.heap.size := by omega
  have n1 : x.block ≠ w.heap.size + 1 := by omega
  go_enter Try.func17, Try.ntmps17
  go_wp2
  refine bodyPost_ret (v := .tuple #[.agg #[.int .u8 (z0 % 128), .int .u8 (z1 % 128), .bool (decide (127 < z0)), .bool (decide (127 < z1)), .int .u8 0, .int .u8 0, .bool false, .slice none 0 0], .int .i64 0]) (by simp [results, Try.results17, go_sem]) rfl ?_
  exact ⟨rfl, ((Below.refl _ _).alloc (Nat.le_refl _) _).alloc (by simp) _⟩
theorem rdec_1 (x : Addr) (len cap : Nat) (z0 z1 z2 : Int) (w : World) (h3 : 3 ≤ len) (h276 : len ≤ 276) (hcap : len ≤ cap) (c0 : w.cell? x = some (.int .u8 z0)) (c1 : w.cell? ⟨x.block, x.off + 1, none⟩ = some (.int .u8 z1)) (c2 : w.cell? ⟨x.block, x.off + 2, none⟩ = some (.int .u8 z2)) (hz0 : 0 ≤ z0 ∧ z0 < 256) (hz1 : 0 ≤ z1 ∧ z1 < 256) (hz2 : 0 ≤ z2 ∧ z2 < 256) (z3 : Int) (c3 : w.cell? ⟨x.block, x.off + 3, none⟩ = some (.int .u8 z3)) (hz3 : 0 ≤ z3 ∧ z3 < 256) (hl : len = 4) (hm : z2 % 64 = 1) : Calls Try.prog 17 #[.slice (some x) len cap] w fun e w' => e = .returned (.tuple #[.agg #[.int .u8 (z0 % 128), .int .u8 (z1 % 128), .bool (decide (127 < z0)), .bool (decide (127 < z1)), .int .u8 1, .int .u8 (z3 % 8), .bool false, .slice none 0 0], .int .i64 0]) ∧ Below w.heap.size w w' := by
  subst hl
  have hlt := World.block_lt_of_cell? _ _ c0
  have n0 : x.block ≠ w.heap.size := by omega
  have n1 : x.block ≠ w.heap.size + 1 := by omega
  go_enter Try.func17, Try.ntmps17
  go_wp2
  refine bodyPost_ret (v := .tuple #[.agg #[.int .u8 (z0 % 128), .int .u8 (z1 % 128), .bool (decide (127 < z0)), .bool (decide (127 < z1)), .int .u8 1, .int .u8 (z3 % 8), .bool false, .slice none 0 0], .int .i64 0]) (by simp [results, Try.results17, go_sem]) rfl ?_
  exact ⟨rfl, ((Below.refl _ _).alloc (Nat.le_refl _) _).alloc (by simp) _⟩
theorem rdec_2 (x : Addr) (len cap : Nat) (z0 z1 z2 : Int) (w : World) (h3 : 3 ≤ len) (h276 : len ≤ 276) (hcap : len ≤ cap) (c0 : w.cell? x = some (.int .u8 z0)) (c1 : w.cell? ⟨x.block, x.off + 1, none⟩ = some (.int .u8 z1)) (c2 : w.cell? ⟨x.block, x.off + 2, none⟩ = some (.int .u8 z2)) (hz0 : 0 ≤ z0 ∧ z0 < 256) (hz1 : 0 ≤ z1 ∧ z1 < 256) (hz2 : 0 ≤ z2 ∧ z2 < 256) (z3 : Int) (c3 : w.cell? ⟨x.block, x.off + 3, none⟩ = some (.int .u8 z3)) (hz3 : 0 ≤ z3 ∧ z3 < 256) (hl : len = 5) (hm : z2 % 64 = 2) : Calls Try.prog 17 #[.slice (some x) len cap] w fun e w' => e = .returned (.tuple #[.agg #[.int .u8 (z0 % 128), .int .u8 (z1 % 128), .bool (decide (127 < z0)), .bool (decide (127 < z1)), .int .u8 1, .int .u8 (z3 % 8), .bool true, .slice none 0 0], .int .i64 0]) ∧ Below w.heap.size w w' := by
  subst hl
  have hlt := World.block_lt_of_cell? _ _ c0
  have n0 : x.block ≠ w.heap.size := by omega
  have n1 : x.block ≠ w.heap.size + 1 := by omega
  go_enter Try.func17, Try.ntmps17
  go_wp2
  refine bodyPost_ret (v := .tuple #[.agg #[.int .u8 (z0 % 128), .int .u8 (z1 % 128), .bool (decide (127 < z0)), .bool (decide (127 < z1)), .int .u8 1, .int .u8 (z3 % 8), .bool true, .slice none 0 0], .int .i64 0]) (by simp [results, Try.results17, go_sem]) rfl ?_
  exact ⟨rfl, ((Below.refl _ _).alloc (Nat.le_refl _) _).alloc (by simp) _⟩
theorem rdec_more_a (x : Addr) (len cap : Nat) (z0 z1 z2 : Int) (w : World) (h3 : 3 ≤ len) (h276 : len ≤ 276) (hcap : len ≤ cap) (c0 : w.cell? x = some (.int .u8 z0)) (c1 : w.cell? ⟨x.block, x.off + 1, none⟩ = some (.int .u8 z1)) (c2 : w.cell? ⟨x.block, x.off + 2, none⟩ = some (.int .u8 z2)) (hz0 : 0 ≤ z0 ∧ z0 < 256) (hz1 : 0 ≤ z1 ∧ z1 < 256) (hz2 : 0 ≤ z2 ∧ z2 < 256) (h6 : 6 ≤ len) (hk : ¬ (63 < len - 3)) (hm : z2 % 64 = (len : Int) - 3) : Calls Try.prog 17 #[.slice (some x) len cap] w fun e w' => e = .returned (.tuple #[.agg #[.int .u8 (z0 % 128), .int .u8 (z1 % 128), .bool (decide (127 < z0)), .bool (decide (127 < z1)), .int .u8 2, .int .u8 0, .bool false, .slice (some ⟨x.block, x.off + 3, none⟩) (len - 3) (cap - 3)], .int .i64 0]) ∧ Below w.heap.size w w' := by
  have hlt := World.block_lt_of_cell? _ _ c0
  have n0 : x.block ≠ w.heap.size := by omega
  have n1 : x.block ≠ w.heap.size + 1 := by omega
  have g1 : ¬ (63 : Int) < (len : Int) - 3 := by omega
  have g4 : ¬ ((len : Int) < 3) := by omega
  have g5 : ¬ ((276 : Int) < len) := by omega
  have g6 : ((len : Int) - 3 == 1) = false := by simp; omega
  have g7 : ((len : Int) - 3 == 2) = false := by simp; omega
  have g8 : (2 : Int) < (len : Int) - 3 := by omega
  go_enter Try.func17, Try.ntmps17
  go_wp2
  refine bodyPost_ret (v := .tuple #[.agg #[.int .u8 (z0 % 128), .int .u8 (z1 % 128), .bool (decide (127 < z0)), .bool (decide (127 < z1)), .int .u8 2, .int .u8 0, .bool false, .slice (some ⟨x.block, x.off + 3, none⟩) (len - 3) (cap - 3)], .int .i64 0]) (by simp [results, Try.results17, go_sem]) rfl ?_
  exact ⟨rfl, ((Below.refl _ _).alloc (Nat.le_refl _) _).alloc (by simp) _⟩
theorem rdec_more_b (x : Addr) (len cap : Nat) (z0 z1 z2 : Int) (w : World) (h3 : 3 ≤ len) (h276 : len ≤ 276) (hcap : len ≤ cap) (c0 : w.cell? x = some (.int .u8 z0)) (c1 : w.cell? ⟨x.block, x.off + 1, none⟩ = some (.int .u8 z1)) (c2 : w.cell? ⟨x.block, x.off + 2, none⟩ = some (.int .u8 z2)) (hz0 : 0 ≤ z0 ∧ z0 < 256) (hz1 : 0 ≤ z1 ∧ z1 < 256) (hz2 : 0 ≤ z2 ∧ z2 < 256) (h6 : 6 ≤ len) (hk : 63 < len - 3) (hm : z2 % 64 = 63) : Calls Try.prog 17 #[.slice (some x) len cap] w fun e w' => e = .returned (.tuple #[.agg #[.int .u8 (z0 % 128), .int .u8 (z1 % 128), .bool (decide (127 < z0)), .bool (decide (127 < z1)), .int .u8 2, .int .u8 0, .bool false, .slice (some ⟨x.block, x.off + 3, none⟩) (len - 3) (cap - 3)], .int .i64 0]) ∧ Below w.heap.size w w' := by
  have hlt := World.block_lt_of_cell? _ _ c0
  have n0 : x.block ≠ w.heap.size := by omega
  have n1 : x.block ≠ w.heap.size + 1 := by omega
  have g1 : (63 : Int) < (len : Int) - 3 := by omega
  have g4 : ¬ ((len : Int) < 3) := by omega
  have g5 : ¬ ((276 : Int) < len) := by omega
  have g6 : ((len : Int) - 3 == 1) = false := by simp; omega
  have g7 : ((len : Int) - 3 == 2) = false := by simp; omega
  have g8 : (2 : Int) < (len : Int) - 3 := by omega
  go_enter Try.func17, Try.ntmps17
  go_wp2
  refine bodyPost_ret (v := .tuple #[.agg #[.int .u8 (z0 % 128), .int .u8 (z1 % 128), .bool (decide (127 < z0)), .bool (decide (127 < z1)), .int .u8 2, .int .u8 0, .bool false, .slice (some ⟨x.block, x.off + 3, none⟩) (len - 3) (cap - 3)], .int .i64 0]) (by simp [results, Try.results17, go_sem]) rfl ?_
  exact ⟨rfl, ((Below.refl _ _).alloc (Nat.le_refl _) _).alloc (by simp) _⟩
end Go.Proofs.Ytpgalefpccgpfaa
