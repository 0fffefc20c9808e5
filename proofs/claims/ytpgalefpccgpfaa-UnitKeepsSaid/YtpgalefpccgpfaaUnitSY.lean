/-
  UnitSame: two units that are made one.
-/
import Derived.Test.YtpgalefpccgpfaaUnitSL
namespace Go.Proofs.Ytpgalefpccgpfaa
open Go.RowKit
set_option linter.unusedVariables false
set_option linter.unusedSimpArgs false

set_option maxHeartbeats 4000000 in
theorem same_yes (b f : Int) (bi fi : Bool) (k s : Int) (wd : Bool) (a : Option Addr) (len cap : Nat) (zs : List Int) (b' f' : Int) (bi' fi' : Bool) (k' s' : Int) (wd' : Bool) (a' : Option Addr) (len' cap' : Nat) (n : Int) (hn0 : 0 ≤ n) (hn1 : n ≤ 255) (w : World) (h : len ≤ 300) (h' : len' ≤ 300) (hr : Row w a len zs) : Calls Try.prog 4 #[.agg #[.int .u8 b, .int .u8 f, .bool bi, .bool fi, .int .u8 k, .int .u8 s, .bool wd, .slice a len cap], .agg #[.int .u8 b', .int .u8 f', .bool bi', .bool fi', .int .u8 k', .int .u8 s', .bool wd', .slice a' len' cap'], .bool true, .int .u8 n] w fun e w' => e = .returned (.bool true) ∧ Below w.heap.size w w' := by
  have h1 : ¬ (300 : Int) < len := by omega
  have h2 : ¬ (300 : Int) < len' := by omega
  have hA : Below w.heap.size w (w.alloc (.cells #[.int .u8 b, .int .u8 f, .bool bi, .bool fi, .int .u8 k, .int .u8 s, .bool wd, .slice a len cap] 24)) := (Below.refl _ _).alloc (Nat.le_refl _) _
  have hA2 := hA.alloc (by simp) (.cells #[.int .u8 b', .int .u8 f', .bool bi', .bool fi', .int .u8 k', .int .u8 s', .bool wd', .slice a' len' cap'] 24)
  have hK := (Blk.new w (#[.int .u8 b, .int .u8 f, .bool bi, .bool fi, .int .u8 k, .int .u8 s, .bool wd, .slice a len cap]).toList 24).alloc (.cells #[.int .u8 b', .int .u8 f', .bool bi', .bool fi', .int .u8 k', .int .u8 s', .bool wd', .slice a' len' cap'] 24)
  have hL := (Blk.new (w.alloc (.cells #[.int .u8 b, .int .u8 f, .bool bi, .bool fi, .int .u8 k, .int .u8 s, .bool wd, .slice a len cap] 24)) (#[.int .u8 b', .int .u8 f', .bool bi', .bool fi', .int .u8 k', .int .u8 s', .bool wd', .slice a' len' cap']).toList 24)
  simp only [World.size_alloc] at hL
  have HR0 := Lib.hid hr
  clear hA hr
  go_enter Try.func4, Try.ntmps4
  go_wp2_with fail
  refine (awake_is _).mono ?_
  rintro e w1 ⟨rfl, hb1⟩
  have hB1 := bthen hA2 hb1
  have hK1 := hK.below hb1
  have hL1 := hL.below hb1
  clear hb1 hK hL hA2
  have hlt : w.heap.size < w.heap.size + 1 := by omega
  generalize w.heap.size + 1 = B at *
  have hs1 := hB1.size
  have hKB := hK1.lt
  have hLB := hL1.lt
  have c0 := hK1.cell 0 rfl
  have c1 := hK1.cell 1 rfl
  have c2 := hK1.cell 2 rfl
  have c3 := hK1.cell 3 rfl
  have c4 := hK1.cell 4 rfl
  have c5 := hK1.cell 5 rfl
  have c6 := hK1.cell 6 rfl
  have c7 := hK1.cell 7 rfl
  have d1 := hL1.cell 1 rfl
  have d7 := hL1.cell 7 rfl
  go_upto_region 6 with (first
    | (refine wpList_store_row rfl 24 (.tmp 5) (.tmp 30) rfl B #[.int .u8 b, .int .u8 f, .bool bi, .bool fi, .int .u8 k, .int .u8 s, .bool wd, .slice a len cap] rfl rfl 24 _ hL1 (by kernel_rfl) rfl (by simp [Value.oneCell']) ?_))
  have hL2 := hL1.row (#[.int .u8 b, .int .u8 f, .bool bi, .bool fi, .int .u8 k, .int .u8 s, .bool wd, .slice a len cap]).toList
  have hK2 := hK1.fr (Fr.row1 w1 B #[.int .u8 b, .int .u8 f, .bool bi, .bool fi, .int .u8 k, .int .u8 s, .bool wd, .slice a len cap]) (by omega)
  have hB2 := below_row hB1 (Nat.le_of_lt hlt) #[.int .u8 b, .int .u8 f, .bool bi, .bool fi, .int .u8 k, .int .u8 s, .bool wd, .slice a len cap]
  clear c0 c1 c2 c3 c4 c5 c6 c7 d1 d7 hK1 hL1 hB1
  have e0 : w1.setRow B (#[.int .u8 b, .int .u8 f, .bool bi, .bool fi, .int .u8 k, .int .u8 s, .bool wd, .slice a len cap]).toList.toArray = w1.setRow B #[.int .u8 b, .int .u8 f, .bool bi, .bool fi, .int .u8 k, .int .u8 s, .bool wd, .slice a len cap] := rfl
  rw [e0] at hL2
  clear e0
  generalize w1.setRow B #[.int .u8 b, .int .u8 f, .bool bi, .bool fi, .int .u8 k, .int .u8 s, .bool wd, .slice a len cap] = w2 at *
  have d1 := hL2.cell 1 rfl
  have f1 := hL2.frozen 1
  have hL3 := hL2.set 1 (.int .u8 f')
  have hK3 := hK2.other (a := ⟨B, 1, none⟩) (by show w.heap.size ≠ B; omega) (.int .u8 f')
  have hB3 := hB2.trans ((Fr.set1 w2 ⟨B, 1, none⟩ (.int .u8 f')).below hB2.size (fun k hk => by simp at hk; omega))
  go_upto_region 7 with fail
  clear hL2 hK2 hB2 d1 f1
  generalize w2.setCell ⟨B, 1, none⟩ (.int .u8 f') = w3 at *
  replace hL3 := hL3.as (show _ = (#[.int .u8 b, .int .u8 f', .bool bi, .bool fi, .int .u8 k, .int .u8 s, .bool wd, .slice a len cap]).toList from rfl)
  clear hs1 hKB hLB
  have hs1 := hB3.size
  have HR := Lib.hid (HR0.out.below (hB3.alloc hs1 (.cells #[.string { data := #[83, 73, 79] }, .string { data := #[83, 73, 78] }, .string { data := #[83, 73, 69] }, .string { data := #[83, 73, 79, 83] }, .string { data := #[83, 73, 80, 79] }, .string { data := #[83, 73, 66] }] 9)))
  have HR' := HR
  have hB2 := hB3.alloc hs1 (.cells #[.string { data := #[83, 73, 79] }, .string { data := #[83, 73, 78] }, .string { data := #[83, 73, 69] }, .string { data := #[83, 73, 79, 83] }, .string { data := #[83, 73, 80, 79] }, .string { data := #[83, 73, 66] }] 9)
  have hK2 := hK3.alloc (.cells #[.string { data := #[83, 73, 79] }, .string { data := #[83, 73, 78] }, .string { data := #[83, 73, 69] }, .string { data := #[83, 73, 79, 83] }, .string { data := #[83, 73, 80, 79] }, .string { data := #[83, 73, 66] }] 9)
  have hL2 := hL3.alloc (.cells #[.string { data := #[83, 73, 79] }, .string { data := #[83, 73, 78] }, .string { data := #[83, 73, 69] }, .string { data := #[83, 73, 79, 83] }, .string { data := #[83, 73, 80, 79] }, .string { data := #[83, 73, 66] }] 9)
  clear hK3 hL3 hB3
  rcases (by omega : n = 0 ∨ n = 1 ∨ n = 2 ∨ n = 3 ∨ n = 4 ∨ n = 5 ∨ 6 ≤ n) with g | g | g | g | g | g | g
  · have hn : nameV n = { data := #[83, 73, 79] } := by rw [g]; rfl
    subst g
    go_upto_region 11 with fail
    generalize w3.alloc (.cells #[.string { data := #[83, 73, 79] }, .string { data := #[83, 73, 78] }, .string { data := #[83, 73, 69] }, .string { data := #[83, 73, 79, 83] }, .string { data := #[83, 73, 80, 79] }, .string { data := #[83, 73, 66] }] 9) = W at *
    have hS : ∀ w' : World, Below W.heap.size W w' → (Below W.heap.size W w' ∧ w'.cell? ⟨w.heap.size, 0, none⟩ = some (.int .u8 b) ∧ w'.cell? ⟨w.heap.size, 1, none⟩ = some (.int .u8 f) ∧ w'.cell? ⟨w.heap.size, 2, none⟩ = some (.bool bi) ∧ w'.cell? ⟨w.heap.size, 3, none⟩ = some (.bool fi) ∧ w'.cell? ⟨w.heap.size, 4, none⟩ = some (.int .u8 k) ∧ w'.cell? ⟨w.heap.size, 5, none⟩ = some (.int .u8 s) ∧ w'.cell? ⟨w.heap.size, 6, none⟩ = some (.bool wd) ∧ w'.cell? ⟨w.heap.size, 7, none⟩ = some (.slice a len cap) ∧ w'.cell? ⟨B, 0, none⟩ = some (.int .u8 b) ∧ w'.cell? ⟨B, 1, none⟩ = some (.int .u8 f') ∧ w'.cell? ⟨B, 2, none⟩ = some (.bool bi) ∧ w'.cell? ⟨B, 3, none⟩ = some (.bool fi) ∧ w'.cell? ⟨B, 4, none⟩ = some (.int .u8 k) ∧ w'.cell? ⟨B, 5, none⟩ = some (.int .u8 s) ∧ w'.cell? ⟨B, 6, none⟩ = some (.bool wd) ∧ w'.cell? ⟨B, 7, none⟩ = some (.slice a len cap)) := fun w' h => ⟨h, (hK2.below h).cell 0 rfl, (hK2.below h).cell 1 rfl, (hK2.below h).cell 2 rfl, (hK2.below h).cell 3 rfl, (hK2.below h).cell 4 rfl, (hK2.below h).cell 5 rfl, (hK2.below h).cell 6 rfl, (hK2.below h).cell 7 rfl, (hL2.below h).cell 0 rfl, (hL2.below h).cell 1 rfl, (hL2.below h).cell 2 rfl, (hL2.below h).cell 3 rfl, (hL2.below h).cell 4 rfl, (hL2.below h).cell 5 rfl, (hL2.below h).cell 6 rfl, (hL2.below h).cell 7 rfl⟩
    have HB2 := Lib.hid hB2
    clear hK2 hL2 hs1 hB2
    go_region_held3 (fun w' => Below W.heap.size W w' ∧ w'.cell? ⟨w.heap.size, 0, none⟩ = some (.int .u8 b) ∧ w'.cell? ⟨w.heap.size, 1, none⟩ = some (.int .u8 f) ∧ w'.cell? ⟨w.heap.size, 2, none⟩ = some (.bool bi) ∧ w'.cell? ⟨w.heap.size, 3, none⟩ = some (.bool fi) ∧ w'.cell? ⟨w.heap.size, 4, none⟩ = some (.int .u8 k) ∧ w'.cell? ⟨w.heap.size, 5, none⟩ = some (.int .u8 s) ∧ w'.cell? ⟨w.heap.size, 6, none⟩ = some (.bool wd) ∧ w'.cell? ⟨w.heap.size, 7, none⟩ = some (.slice a len cap) ∧ w'.cell? ⟨B, 0, none⟩ = some (.int .u8 b) ∧ w'.cell? ⟨B, 1, none⟩ = some (.int .u8 f') ∧ w'.cell? ⟨B, 2, none⟩ = some (.bool bi) ∧ w'.cell? ⟨B, 3, none⟩ = some (.bool fi) ∧ w'.cell? ⟨B, 4, none⟩ = some (.int .u8 k) ∧ w'.cell? ⟨B, 5, none⟩ = some (.int .u8 s) ∧ w'.cell? ⟨B, 6, none⟩ = some (.bool wd) ∧ w'.cell? ⟨B, 7, none⟩ = some (.slice a len cap)) (first | exact hS _ (below_drewN (Below.refl _ _) 1) | exact hS _ (bthen (And.left (by assumption)) hbq) | go_keep)
      (first | (go_at_call 13; refine (usame_is _ _ _ _ _ _ _ _ _ _ _ _ _ _ _ _ _ _ _ _ _ _ _ (by first | exact HR.out.below (And.left (by assumption)) | exact HR'.out.below (And.left (by assumption))) (by first | exact HR.out.below (And.left (by assumption)) | exact HR'.out.below (And.left (by assumption))) (by omega)).mono ?_; rintro e w' ⟨rfl, hbq⟩; try rw [sameV_self]) | (go_at_call 14; refine (rsame_is _ _ _ _ _ _ _ _ _ _ _ _ _ _ _ _ _ _ _ _ _ _ _ (by first | exact HR.out.below (And.left (by assumption)) | exact HR'.out.below (And.left (by assumption))) (by first | exact HR.out.below (And.left (by assumption)) | exact HR'.out.below (And.left (by assumption))) (by omega)).mono ?_; rintro e w' ⟨rfl, hbq⟩) | (go_at_call 15; refine (name_is _ (by omega) (by omega) _).mono ?_; rintro e w' ⟨rfl, hbq⟩; rw [hn]))
    go_wp2
    go_ret
    exact ⟨rfl, bthen HB2.out (And.left (by assumption))⟩
  · have hn : nameV n = { data := #[83, 73, 78] } := by rw [g]; rfl
    subst g
    go_upto_region 11 with fail
    generalize w3.alloc (.cells #[.string { data := #[83, 73, 79] }, .string { data := #[83, 73, 78] }, .string { data := #[83, 73, 69] }, .string { data := #[83, 73, 79, 83] }, .string { data := #[83, 73, 80, 79] }, .string { data := #[83, 73, 66] }] 9) = W at *
    have hS : ∀ w' : World, Below W.heap.size W w' → (Below W.heap.size W w' ∧ w'.cell? ⟨w.heap.size, 0, none⟩ = some (.int .u8 b) ∧ w'.cell? ⟨w.heap.size, 1, none⟩ = some (.int .u8 f) ∧ w'.cell? ⟨w.heap.size, 2, none⟩ = some (.bool bi) ∧ w'.cell? ⟨w.heap.size, 3, none⟩ = some (.bool fi) ∧ w'.cell? ⟨w.heap.size, 4, none⟩ = some (.int .u8 k) ∧ w'.cell? ⟨w.heap.size, 5, none⟩ = some (.int .u8 s) ∧ w'.cell? ⟨w.heap.size, 6, none⟩ = some (.bool wd) ∧ w'.cell? ⟨w.heap.size, 7, none⟩ = some (.slice a len cap) ∧ w'.cell? ⟨B, 0, none⟩ = some (.int .u8 b) ∧ w'.cell? ⟨B, 1, none⟩ = some (.int .u8 f') ∧ w'.cell? ⟨B, 2, none⟩ = some (.bool bi) ∧ w'.cell? ⟨B, 3, none⟩ = some (.bool fi) ∧ w'.cell? ⟨B, 4, none⟩ = some (.int .u8 k) ∧ w'.cell? ⟨B, 5, none⟩ = some (.int .u8 s) ∧ w'.cell? ⟨B, 6, none⟩ = some (.bool wd) ∧ w'.cell? ⟨B, 7, none⟩ = some (.slice a len cap)) := fun w' h => ⟨h, (hK2.below h).cell 0 rfl, (hK2.below h).cell 1 rfl, (hK2.below h).cell 2 rfl, (hK2.below h).cell 3 rfl, (hK2.below h).cell 4 rfl, (hK2.below h).cell 5 rfl, (hK2.below h).cell 6 rfl, (hK2.below h).cell 7 rfl, (hL2.below h).cell 0 rfl, (hL2.below h).cell 1 rfl, (hL2.below h).cell 2 rfl, (hL2.below h).cell 3 rfl, (hL2.below h).cell 4 rfl, (hL2.below h).cell 5 rfl, (hL2.below h).cell 6 rfl, (hL2.below h).cell 7 rfl⟩
    have HB2 := Lib.hid hB2
    clear hK2 hL2 hs1 hB2
    go_region_held3 (fun w' => Below W.heap.size W w' ∧ w'.cell? ⟨w.heap.size, 0, none⟩ = some (.int .u8 b) ∧ w'.cell? ⟨w.heap.size, 1, none⟩ = some (.int .u8 f) ∧ w'.cell? ⟨w.heap.size, 2, none⟩ = some (.bool bi) ∧ w'.cell? ⟨w.heap.size, 3, none⟩ = some (.bool fi) ∧ w'.cell? ⟨w.heap.size, 4, none⟩ = some (.int .u8 k) ∧ w'.cell? ⟨w.heap.size, 5, none⟩ = some (.int .u8 s) ∧ w'.cell? ⟨w.heap.size, 6, none⟩ = some (.bool wd) ∧ w'.cell? ⟨w.heap.size, 7, none⟩ = some (.slice a len cap) ∧ w'.cell? ⟨B, 0, none⟩ = some (.int .u8 b) ∧ w'.cell? ⟨B, 1, none⟩ = some (.int .u8 f') ∧ w'.cell? ⟨B, 2, none⟩ = some (.bool bi) ∧ w'.cell? ⟨B, 3, none⟩ = some (.bool fi) ∧ w'.cell? ⟨B, 4, none⟩ = some (.int .u8 k) ∧ w'.cell? ⟨B, 5, none⟩ = some (.int .u8 s) ∧ w'.cell? ⟨B, 6, none⟩ = some (.bool wd) ∧ w'.cell? ⟨B, 7, none⟩ = some (.slice a len cap)) (first | exact hS _ (below_drewN (Below.refl _ _) 1) | exact hS _ (bthen (And.left (by assumption)) hbq) | go_keep)
      (first | (go_at_call 13; refine (usame_is _ _ _ _ _ _ _ _ _ _ _ _ _ _ _ _ _ _ _ _ _ _ _ (by first | exact HR.out.below (And.left (by assumption)) | exact HR'.out.below (And.left (by assumption))) (by first | exact HR.out.below (And.left (by assumption)) | exact HR'.out.below (And.left (by assumption))) (by omega)).mono ?_; rintro e w' ⟨rfl, hbq⟩; try rw [sameV_self]) | (go_at_call 14; refine (rsame_is _ _ _ _ _ _ _ _ _ _ _ _ _ _ _ _ _ _ _ _ _ _ _ (by first | exact HR.out.below (And.left (by assumption)) | exact HR'.out.below (And.left (by assumption))) (by first | exact HR.out.below (And.left (by assumption)) | exact HR'.out.below (And.left (by assumption))) (by omega)).mono ?_; rintro e w' ⟨rfl, hbq⟩) | (go_at_call 15; refine (name_is _ (by omega) (by omega) _).mono ?_; rintro e w' ⟨rfl, hbq⟩; rw [hn]))
    go_wp2
    go_ret
    exact ⟨rfl, bthen HB2.out (And.left (by assumption))⟩
  · have hn : nameV n = { data := #[83, 73, 69] } := by rw [g]; rfl
    subst g
    go_upto_region 11 with fail
    generalize w3.alloc (.cells #[.string { data := #[83, 73, 79] }, .string { data := #[83, 73, 78] }, .string { data := #[83, 73, 69] }, .string { data := #[83, 73, 79, 83] }, .string { data := #[83, 73, 80, 79] }, .string { data := #[83, 73, 66] }] 9) = W at *
    have hS : ∀ w' : World, Below W.heap.size W w' → (Below W.heap.size W w' ∧ w'.cell? ⟨w.heap.size, 0, none⟩ = some (.int .u8 b) ∧ w'.cell? ⟨w.heap.size, 1, none⟩ = some (.int .u8 f) ∧ w'.cell? ⟨w.heap.size, 2, none⟩ = some (.bool bi) ∧ w'.cell? ⟨w.heap.size, 3, none⟩ = some (.bool fi) ∧ w'.cell? ⟨w.heap.size, 4, none⟩ = some (.int .u8 k) ∧ w'.cell? ⟨w.heap.size, 5, none⟩ = some (.int .u8 s) ∧ w'.cell? ⟨w.heap.size, 6, none⟩ = some (.bool wd) ∧ w'.cell? ⟨w.heap.size, 7, none⟩ = some (.slice a len cap) ∧ w'.cell? ⟨B, 0, none⟩ = some (.int .u8 b) ∧ w'.cell? ⟨B, 1, none⟩ = some (.int .u8 f') ∧ w'.cell? ⟨B, 2, none⟩ = some (.bool bi) ∧ w'.cell? ⟨B, 3, none⟩ = some (.bool fi) ∧ w'.cell? ⟨B, 4, none⟩ = some (.int .u8 k) ∧ w'.cell? ⟨B, 5, none⟩ = some (.int .u8 s) ∧ w'.cell? ⟨B, 6, none⟩ = some (.bool wd) ∧ w'.cell? ⟨B, 7, none⟩ = some (.slice a len cap)) := fun w' h => ⟨h, (hK2.below h).cell 0 rfl, (hK2.below h).cell 1 rfl, (hK2.below h).cell 2 rfl, (hK2.below h).cell 3 rfl, (hK2.below h).cell 4 rfl, (hK2.below h).cell 5 rfl, (hK2.below h).cell 6 rfl, (hK2.below h).cell 7 rfl, (hL2.below h).cell 0 rfl, (hL2.below h).cell 1 rfl, (hL2.below h).cell 2 rfl, (hL2.below h).cell 3 rfl, (hL2.below h).cell 4 rfl, (hL2.below h).cell 5 rfl, (hL2.below h).cell 6 rfl, (hL2.below h).cell 7 rfl⟩
    have HB2 := Lib.hid hB2
    clear hK2 hL2 hs1 hB2
    go_region_held3 (fun w' => Below W.heap.size W w' ∧ w'.cell? ⟨w.heap.size, 0, none⟩ = some (.int .u8 b) ∧ w'.cell? ⟨w.heap.size, 1, none⟩ = some (.int .u8 f) ∧ w'.cell? ⟨w.heap.size, 2, none⟩ = some (.bool bi) ∧ w'.cell? ⟨w.heap.size, 3, none⟩ = some (.bool fi) ∧ w'.cell? ⟨w.heap.size, 4, none⟩ = some (.int .u8 k) ∧ w'.cell? ⟨w.heap.size, 5, none⟩ = some (.int .u8 s) ∧ w'.cell? ⟨w.heap.size, 6, none⟩ = some (.bool wd) ∧ w'.cell? ⟨w.heap.size, 7, none⟩ = some (.slice a len cap) ∧ w'.cell? ⟨B, 0, none⟩ = some (.int .u8 b) ∧ w'.cell? ⟨B, 1, none⟩ = some (.int .u8 f') ∧ w'.cell? ⟨B, 2, none⟩ = some (.bool bi) ∧ w'.cell? ⟨B, 3, none⟩ = some (.bool fi) ∧ w'.cell? ⟨B, 4, none⟩ = some (.int .u8 k) ∧ w'.cell? ⟨B, 5, none⟩ = some (.int .u8 s) ∧ w'.cell? ⟨B, 6, none⟩ = some (.bool wd) ∧ w'.cell? ⟨B, 7, none⟩ = some (.slice a len cap)) (first | exact hS _ (below_drewN (Below.refl _ _) 1) | exact hS _ (bthen (And.left (by assumption)) hbq) | go_keep)
      (first | (go_at_call 13; refine (usame_is _ _ _ _ _ _ _ _ _ _ _ _ _ _ _ _ _ _ _ _ _ _ _ (by first | exact HR.out.below (And.left (by assumption)) | exact HR'.out.below (And.left (by assumption))) (by first | exact HR.out.below (And.left (by assumption)) | exact HR'.out.below (And.left (by assumption))) (by omega)).mono ?_; rintro e w' ⟨rfl, hbq⟩; try rw [sameV_self]) | (go_at_call 14; refine (rsame_is _ _ _ _ _ _ _ _ _ _ _ _ _ _ _ _ _ _ _ _ _ _ _ (by first | exact HR.out.below (And.left (by assumption)) | exact HR'.out.below (And.left (by assumption))) (by first | exact HR.out.below (And.left (by assumption)) | exact HR'.out.below (And.left (by assumption))) (by omega)).mono ?_; rintro e w' ⟨rfl, hbq⟩) | (go_at_call 15; refine (name_is _ (by omega) (by omega) _).mono ?_; rintro e w' ⟨rfl, hbq⟩; rw [hn]))
    go_wp2
    go_ret
    exact ⟨rfl, bthen HB2.out (And.left (by assumption))⟩
  · have hn : nameV n = { data := #[83, 73, 79, 83] } := by rw [g]; rfl
    subst g
    go_upto_region 11 with fail
    generalize w3.alloc (.cells #[.string { data := #[83, 73, 79] }, .string { data := #[83, 73, 78] }, .string { data := #[83, 73, 69] }, .string { data := #[83, 73, 79, 83] }, .string { data := #[83, 73, 80, 79] }, .string { data := #[83, 73, 66] }] 9) = W at *
    have hS : ∀ w' : World, Below W.heap.size W w' → (Below W.heap.size W w' ∧ w'.cell? ⟨w.heap.size, 0, none⟩ = some (.int .u8 b) ∧ w'.cell? ⟨w.heap.size, 1, none⟩ = some (.int .u8 f) ∧ w'.cell? ⟨w.heap.size, 2, none⟩ = some (.bool bi) ∧ w'.cell? ⟨w.heap.size, 3, none⟩ = some (.bool fi) ∧ w'.cell? ⟨w.heap.size, 4, none⟩ = some (.int .u8 k) ∧ w'.cell? ⟨w.heap.size, 5, none⟩ = some (.int .u8 s) ∧ w'.cell? ⟨w.heap.size, 6, none⟩ = some (.bool wd) ∧ w'.cell? ⟨w.heap.size, 7, none⟩ = some (.slice a len cap) ∧ w'.cell? ⟨B, 0, none⟩ = some (.int .u8 b) ∧ w'.cell? ⟨B, 1, none⟩ = some (.int .u8 f') ∧ w'.cell? ⟨B, 2, none⟩ = some (.bool bi) ∧ w'.cell? ⟨B, 3, none⟩ = some (.bool fi) ∧ w'.cell? ⟨B, 4, none⟩ = some (.int .u8 k) ∧ w'.cell? ⟨B, 5, none⟩ = some (.int .u8 s) ∧ w'.cell? ⟨B, 6, none⟩ = some (.bool wd) ∧ w'.cell? ⟨B, 7, none⟩ = some (.slice a len cap)) := fun w' h => ⟨h, (hK2.below h).cell 0 rfl, (hK2.below h).cell 1 rfl, (hK2.below h).cell 2 rfl, (hK2.below h).cell 3 rfl, (hK2.below h).cell 4 rfl, (hK2.below h).cell 5 rfl, (hK2.below h).cell 6 rfl, (hK2.below h).cell 7 rfl, (hL2.below h).cell 0 rfl, (hL2.below h).cell 1 rfl, (hL2.below h).cell 2 rfl, (hL2.below h).cell 3 rfl, (hL2.below h).cell 4 rfl, (hL2.below h).cell 5 rfl, (hL2.below h).cell 6 rfl, (hL2.below h).cell 7 rfl⟩
    have HB2 := Lib.hid hB2
    clear hK2 hL2 hs1 hB2
    go_region_held3 (fun w' => Below W.heap.size W w' ∧ w'.cell? ⟨w.heap.size, 0, none⟩ = some (.int .u8 b) ∧ w'.cell? ⟨w.heap.size, 1, none⟩ = some (.int .u8 f) ∧ w'.cell? ⟨w.heap.size, 2, none⟩ = some (.bool bi) ∧ w'.cell? ⟨w.heap.size, 3, none⟩ = some (.bool fi) ∧ w'.cell? ⟨w.heap.size, 4, none⟩ = some (.int .u8 k) ∧ w'.cell? ⟨w.heap.size, 5, none⟩ = some (.int .u8 s) ∧ w'.cell? ⟨w.heap.size, 6, none⟩ = some (.bool wd) ∧ w'.cell? ⟨w.heap.size, 7, none⟩ = some (.slice a len cap) ∧ w'.cell? ⟨B, 0, none⟩ = some (.int .u8 b) ∧ w'.cell? ⟨B, 1, none⟩ = some (.int .u8 f') ∧ w'.cell? ⟨B, 2, none⟩ = some (.bool bi) ∧ w'.cell? ⟨B, 3, none⟩ = some (.bool fi) ∧ w'.cell? ⟨B, 4, none⟩ = some (.int .u8 k) ∧ w'.cell? ⟨B, 5, none⟩ = some (.int .u8 s) ∧ w'.cell? ⟨B, 6, none⟩ = some (.bool wd) ∧ w'.cell? ⟨B, 7, none⟩ = some (.slice a len cap)) (first | exact hS _ (below_drewN (Below.refl _ _) 1) | exact hS _ (bthen (And.left (by assumption)) hbq) | go_keep)
      (first | (go_at_call 13; refine (usame_is _ _ _ _ _ _ _ _ _ _ _ _ _ _ _ _ _ _ _ _ _ _ _ (by first | exact HR.out.below (And.left (by assumption)) | exact HR'.out.below (And.left (by assumption))) (by first | exact HR.out.below (And.left (by assumption)) | exact HR'.out.below (And.left (by assumption))) (by omega)).mono ?_; rintro e w' ⟨rfl, hbq⟩; try rw [sameV_self]) | (go_at_call 14; refine (rsame_is _ _ _ _ _ _ _ _ _ _ _ _ _ _ _ _ _ _ _ _ _ _ _ (by first | exact HR.out.below (And.left (by assumption)) | exact HR'.out.below (And.left (by assumption))) (by first | exact HR.out.below (And.left (by assumption)) | exact HR'.out.below (And.left (by assumption))) (by omega)).mono ?_; rintro e w' ⟨rfl, hbq⟩) | (go_at_call 15; refine (name_is _ (by omega) (by omega) _).mono ?_; rintro e w' ⟨rfl, hbq⟩; rw [hn]))
    go_wp2
    go_ret
    exact ⟨rfl, bthen HB2.out (And.left (by assumption))⟩
  · have hn : nameV n = { data := #[83, 73, 80, 79] } := by rw [g]; rfl
    subst g
    go_upto_region 11 with fail
    generalize w3.alloc (.cells #[.string { data := #[83, 73, 79] }, .string { data := #[83, 73, 78] }, .string { data := #[83, 73, 69] }, .string { data := #[83, 73, 79, 83] }, .string { data := #[83, 73, 80, 79] }, .string { data := #[83, 73, 66] }] 9) = W at *
    have hS : ∀ w' : World, Below W.heap.size W w' → (Below W.heap.size W w' ∧ w'.cell? ⟨w.heap.size, 0, none⟩ = some (.int .u8 b) ∧ w'.cell? ⟨w.heap.size, 1, none⟩ = some (.int .u8 f) ∧ w'.cell? ⟨w.heap.size, 2, none⟩ = some (.bool bi) ∧ w'.cell? ⟨w.heap.size, 3, none⟩ = some (.bool fi) ∧ w'.cell? ⟨w.heap.size, 4, none⟩ = some (.int .u8 k) ∧ w'.cell? ⟨w.heap.size, 5, none⟩ = some (.int .u8 s) ∧ w'.cell? ⟨w.heap.size, 6, none⟩ = some (.bool wd) ∧ w'.cell? ⟨w.heap.size, 7, none⟩ = some (.slice a len cap) ∧ w'.cell? ⟨B, 0, none⟩ = some (.int .u8 b) ∧ w'.cell? ⟨B, 1, none⟩ = some (.int .u8 f') ∧ w'.cell? ⟨B, 2, none⟩ = some (.bool bi) ∧ w'.cell? ⟨B, 3, none⟩ = some (.bool fi) ∧ w'.cell? ⟨B, 4, none⟩ = some (.int .u8 k) ∧ w'.cell? ⟨B, 5, none⟩ = some (.int .u8 s) ∧ w'.cell? ⟨B, 6, none⟩ = some (.bool wd) ∧ w'.cell? ⟨B, 7, none⟩ = some (.slice a len cap)) := fun w' h => ⟨h, (hK2.below h).cell 0 rfl, (hK2.below h).cell 1 rfl, (hK2.below h).cell 2 rfl, (hK2.below h).cell 3 rfl, (hK2.below h).cell 4 rfl, (hK2.below h).cell 5 rfl, (hK2.below h).cell 6 rfl, (hK2.below h).cell 7 rfl, (hL2.below h).cell 0 rfl, (hL2.below h).cell 1 rfl, (hL2.below h).cell 2 rfl, (hL2.below h).cell 3 rfl, (hL2.below h).cell 4 rfl, (hL2.below h).cell 5 rfl, (hL2.below h).cell 6 rfl, (hL2.below h).cell 7 rfl⟩
    have HB2 := Lib.hid hB2
    clear hK2 hL2 hs1 hB2
    go_region_held3 (fun w' => Below W.heap.size W w' ∧ w'.cell? ⟨w.heap.size, 0, none⟩ = some (.int .u8 b) ∧ w'.cell? ⟨w.heap.size, 1, none⟩ = some (.int .u8 f) ∧ w'.cell? ⟨w.heap.size, 2, none⟩ = some (.bool bi) ∧ w'.cell? ⟨w.heap.size, 3, none⟩ = some (.bool fi) ∧ w'.cell? ⟨w.heap.size, 4, none⟩ = some (.int .u8 k) ∧ w'.cell? ⟨w.heap.size, 5, none⟩ = some (.int .u8 s) ∧ w'.cell? ⟨w.heap.size, 6, none⟩ = some (.bool wd) ∧ w'.cell? ⟨w.heap.size, 7, none⟩ = some (.slice a len cap) ∧ w'.cell? ⟨B, 0, none⟩ = some (.int .u8 b) ∧ w'.cell? ⟨B, 1, none⟩ = some (.int .u8 f') ∧ w'.cell? ⟨B, 2, none⟩ = some (.bool bi) ∧ w'.cell? ⟨B, 3, none⟩ = some (.bool fi) ∧ w'.cell? ⟨B, 4, none⟩ = some (.int .u8 k) ∧ w'.cell? ⟨B, 5, none⟩ = some (.int .u8 s) ∧ w'.cell? ⟨B, 6, none⟩ = some (.bool wd) ∧ w'.cell? ⟨B, 7, none⟩ = some (.slice a len cap)) (first | exact hS _ (below_drewN (Below.refl _ _) 1) | exact hS _ (bthen (And.left (by assumption)) hbq) | go_keep)
      (first | (go_at_call 13; refine (usame_is _ _ _ _ _ _ _ _ _ _ _ _ _ _ _ _ _ _ _ _ _ _ _ (by first | exact HR.out.below (And.left (by assumption)) | exact HR'.out.below (And.left (by assumption))) (by first | exact HR.out.below (And.left (by assumption)) | exact HR'.out.below (And.left (by assumption))) (by omega)).mono ?_; rintro e w' ⟨rfl, hbq⟩; try rw [sameV_self]) | (go_at_call 14; refine (rsame_is _ _ _ _ _ _ _ _ _ _ _ _ _ _ _ _ _ _ _ _ _ _ _ (by first | exact HR.out.below (And.left (by assumption)) | exact HR'.out.below (And.left (by assumption))) (by first | exact HR.out.below (And.left (by assumption)) | exact HR'.out.below (And.left (by assumption))) (by omega)).mono ?_; rintro e w' ⟨rfl, hbq⟩) | (go_at_call 15; refine (name_is _ (by omega) (by omega) _).mono ?_; rintro e w' ⟨rfl, hbq⟩; rw [hn]))
    go_wp2
    go_ret
    exact ⟨rfl, bthen HB2.out (And.left (by assumption))⟩
  · have hn : nameV n = { data := #[83, 73, 66] } := by rw [g]; rfl
    subst g
    go_upto_region 11 with fail
    generalize w3.alloc (.cells #[.string { data := #[83, 73, 79] }, .string { data := #[83, 73, 78] }, .string { data := #[83, 73, 69] }, .string { data := #[83, 73, 79, 83] }, .string { data := #[83, 73, 80, 79] }, .string { data := #[83, 73, 66] }] 9) = W at *
    have hS : ∀ w' : World, Below W.heap.size W w' → (Below W.heap.size W w' ∧ w'.cell? ⟨w.heap.size, 0, none⟩ = some (.int .u8 b) ∧ w'.cell? ⟨w.heap.size, 1, none⟩ = some (.int .u8 f) ∧ w'.cell? ⟨w.heap.size, 2, none⟩ = some (.bool bi) ∧ w'.cell? ⟨w.heap.size, 3, none⟩ = some (.bool fi) ∧ w'.cell? ⟨w.heap.size, 4, none⟩ = some (.int .u8 k) ∧ w'.cell? ⟨w.heap.size, 5, none⟩ = some (.int .u8 s) ∧ w'.cell? ⟨w.heap.size, 6, none⟩ = some (.bool wd) ∧ w'.cell? ⟨w.heap.size, 7, none⟩ = some (.slice a len cap) ∧ w'.cell? ⟨B, 0, none⟩ = some (.int .u8 b) ∧ w'.cell? ⟨B, 1, none⟩ = some (.int .u8 f') ∧ w'.cell? ⟨B, 2, none⟩ = some (.bool bi) ∧ w'.cell? ⟨B, 3, none⟩ = some (.bool fi) ∧ w'.cell? ⟨B, 4, none⟩ = some (.int .u8 k) ∧ w'.cell? ⟨B, 5, none⟩ = some (.int .u8 s) ∧ w'.cell? ⟨B, 6, none⟩ = some (.bool wd) ∧ w'.cell? ⟨B, 7, none⟩ = some (.slice a len cap)) := fun w' h => ⟨h, (hK2.below h).cell 0 rfl, (hK2.below h).cell 1 rfl, (hK2.below h).cell 2 rfl, (hK2.below h).cell 3 rfl, (hK2.below h).cell 4 rfl, (hK2.below h).cell 5 rfl, (hK2.below h).cell 6 rfl, (hK2.below h).cell 7 rfl, (hL2.below h).cell 0 rfl, (hL2.below h).cell 1 rfl, (hL2.below h).cell 2 rfl, (hL2.below h).cell 3 rfl, (hL2.below h).cell 4 rfl, (hL2.below h).cell 5 rfl, (hL2.below h).cell 6 rfl, (hL2.below h).cell 7 rfl⟩
    have HB2 := Lib.hid hB2
    clear hK2 hL2 hs1 hB2
    go_region_held3 (fun w' => Below W.heap.size W w' ∧ w'.cell? ⟨w.heap.size, 0, none⟩ = some (.int .u8 b) ∧ w'.cell? ⟨w.heap.size, 1, none⟩ = some (.int .u8 f) ∧ w'.cell? ⟨w.heap.size, 2, none⟩ = some (.bool bi) ∧ w'.cell? ⟨w.heap.size, 3, none⟩ = some (.bool fi) ∧ w'.cell? ⟨w.heap.size, 4, none⟩ = some (.int .u8 k) ∧ w'.cell? ⟨w.heap.size, 5, none⟩ = some (.int .u8 s) ∧ w'.cell? ⟨w.heap.size, 6, none⟩ = some (.bool wd) ∧ w'.cell? ⟨w.heap.size, 7, none⟩ = some (.slice a len cap) ∧ w'.cell? ⟨B, 0, none⟩ = some (.int .u8 b) ∧ w'.cell? ⟨B, 1, none⟩ = some (.int .u8 f') ∧ w'.cell? ⟨B, 2, none⟩ = some (.bool bi) ∧ w'.cell? ⟨B, 3, none⟩ = some (.bool fi) ∧ w'.cell? ⟨B, 4, none⟩ = some (.int .u8 k) ∧ w'.cell? ⟨B, 5, none⟩ = some (.int .u8 s) ∧ w'.cell? ⟨B, 6, none⟩ = some (.bool wd) ∧ w'.cell? ⟨B, 7, none⟩ = some (.slice a len cap)) (first | exact hS _ (below_drewN (Below.refl _ _) 1) | exact hS _ (bthen (And.left (by assumption)) hbq) | go_keep)
      (first | (go_at_call 13; refine (usame_is _ _ _ _ _ _ _ _ _ _ _ _ _ _ _ _ _ _ _ _ _ _ _ (by first | exact HR.out.below (And.left (by assumption)) | exact HR'.out.below (And.left (by assumption))) (by first | exact HR.out.below (And.left (by assumption)) | exact HR'.out.below (And.left (by assumption))) (by omega)).mono ?_; rintro e w' ⟨rfl, hbq⟩; try rw [sameV_self]) | (go_at_call 14; refine (rsame_is _ _ _ _ _ _ _ _ _ _ _ _ _ _ _ _ _ _ _ _ _ _ _ (by first | exact HR.out.below (And.left (by assumption)) | exact HR'.out.below (And.left (by assumption))) (by first | exact HR.out.below (And.left (by assumption)) | exact HR'.out.below (And.left (by assumption))) (by omega)).mono ?_; rintro e w' ⟨rfl, hbq⟩) | (go_at_call 15; refine (name_is _ (by omega) (by omega) _).mono ?_; rintro e w' ⟨rfl, hbq⟩; rw [hn]))
    go_wp2
    go_ret
    exact ⟨rfl, bthen HB2.out (And.left (by assumption))⟩
  · have hn : nameV n = { data := #[] } := nameV_none g
    go_upto_region 11 with fail
    generalize w3.alloc (.cells #[.string { data := #[83, 73, 79] }, .string { data := #[83, 73, 78] }, .string { data := #[83, 73, 69] }, .string { data := #[83, 73, 79, 83] }, .string { data := #[83, 73, 80, 79] }, .string { data := #[83, 73, 66] }] 9) = W at *
    have hS : ∀ w' : World, Below W.heap.size W w' → (Below W.heap.size W w' ∧ w'.cell? ⟨w.heap.size, 0, none⟩ = some (.int .u8 b) ∧ w'.cell? ⟨w.heap.size, 1, none⟩ = some (.int .u8 f) ∧ w'.cell? ⟨w.heap.size, 2, none⟩ = some (.bool bi) ∧ w'.cell? ⟨w.heap.size, 3, none⟩ = some (.bool fi) ∧ w'.cell? ⟨w.heap.size, 4, none⟩ = some (.int .u8 k) ∧ w'.cell? ⟨w.heap.size, 5, none⟩ = some (.int .u8 s) ∧ w'.cell? ⟨w.heap.size, 6, none⟩ = some (.bool wd) ∧ w'.cell? ⟨w.heap.size, 7, none⟩ = some (.slice a len cap) ∧ w'.cell? ⟨B, 0, none⟩ = some (.int .u8 b) ∧ w'.cell? ⟨B, 1, none⟩ = some (.int .u8 f') ∧ w'.cell? ⟨B, 2, none⟩ = some (.bool bi) ∧ w'.cell? ⟨B, 3, none⟩ = some (.bool fi) ∧ w'.cell? ⟨B, 4, none⟩ = some (.int .u8 k) ∧ w'.cell? ⟨B, 5, none⟩ = some (.int .u8 s) ∧ w'.cell? ⟨B, 6, none⟩ = some (.bool wd) ∧ w'.cell? ⟨B, 7, none⟩ = some (.slice a len cap)) := fun w' h => ⟨h, (hK2.below h).cell 0 rfl, (hK2.below h).cell 1 rfl, (hK2.below h).cell 2 rfl, (hK2.below h).cell 3 rfl, (hK2.below h).cell 4 rfl, (hK2.below h).cell 5 rfl, (hK2.below h).cell 6 rfl, (hK2.below h).cell 7 rfl, (hL2.below h).cell 0 rfl, (hL2.below h).cell 1 rfl, (hL2.below h).cell 2 rfl, (hL2.below h).cell 3 rfl, (hL2.below h).cell 4 rfl, (hL2.below h).cell 5 rfl, (hL2.below h).cell 6 rfl, (hL2.below h).cell 7 rfl⟩
    have HB2 := Lib.hid hB2
    clear hK2 hL2 hs1 hB2
    go_region_held3 (fun w' => Below W.heap.size W w' ∧ w'.cell? ⟨w.heap.size, 0, none⟩ = some (.int .u8 b) ∧ w'.cell? ⟨w.heap.size, 1, none⟩ = some (.int .u8 f) ∧ w'.cell? ⟨w.heap.size, 2, none⟩ = some (.bool bi) ∧ w'.cell? ⟨w.heap.size, 3, none⟩ = some (.bool fi) ∧ w'.cell? ⟨w.heap.size, 4, none⟩ = some (.int .u8 k) ∧ w'.cell? ⟨w.heap.size, 5, none⟩ = some (.int .u8 s) ∧ w'.cell? ⟨w.heap.size, 6, none⟩ = some (.bool wd) ∧ w'.cell? ⟨w.heap.size, 7, none⟩ = some (.slice a len cap) ∧ w'.cell? ⟨B, 0, none⟩ = some (.int .u8 b) ∧ w'.cell? ⟨B, 1, none⟩ = some (.int .u8 f') ∧ w'.cell? ⟨B, 2, none⟩ = some (.bool bi) ∧ w'.cell? ⟨B, 3, none⟩ = some (.bool fi) ∧ w'.cell? ⟨B, 4, none⟩ = some (.int .u8 k) ∧ w'.cell? ⟨B, 5, none⟩ = some (.int .u8 s) ∧ w'.cell? ⟨B, 6, none⟩ = some (.bool wd) ∧ w'.cell? ⟨B, 7, none⟩ = some (.slice a len cap)) (first | exact hS _ (below_drewN (Below.refl _ _) 1) | exact hS _ (bthen (And.left (by assumption)) hbq) | go_keep)
      (first | (go_at_call 13; refine (usame_is _ _ _ _ _ _ _ _ _ _ _ _ _ _ _ _ _ _ _ _ _ _ _ (by first | exact HR.out.below (And.left (by assumption)) | exact HR'.out.below (And.left (by assumption))) (by first | exact HR.out.below (And.left (by assumption)) | exact HR'.out.below (And.left (by assumption))) (by omega)).mono ?_; rintro e w' ⟨rfl, hbq⟩; try rw [sameV_self]) | (go_at_call 14; refine (rsame_is _ _ _ _ _ _ _ _ _ _ _ _ _ _ _ _ _ _ _ _ _ _ _ (by first | exact HR.out.below (And.left (by assumption)) | exact HR'.out.below (And.left (by assumption))) (by first | exact HR.out.below (And.left (by assumption)) | exact HR'.out.below (And.left (by assumption))) (by omega)).mono ?_; rintro e w' ⟨rfl, hbq⟩) | (go_at_call 15; refine (name_is _ (by omega) (by omega) _).mono ?_; rintro e w' ⟨rfl, hbq⟩; rw [hn]))
    go_wp2
    go_ret
    exact ⟨rfl, bthen HB2.out (And.left (by assumption))⟩
end Go.Proofs.Ytpgalefpccgpfaa
