/-
  UnitSame: are two units one? Names of statuses.
-/
import Derived.Test.YtpgalefpccgpfaaUnitS
namespace Go.Proofs.Ytpgalefpccgpfaa
open Go.RowKit
set_option linter.unusedVariables false
set_option linter.unusedSimpArgs false

theorem held_row {W w0 : World} {a : Option Addr} {len : Nat} {zs : List Int} (h : Below W.heap.size W w0 ∧ ∀ b o, b < W.heap.size → w0.cell? ⟨b, o, none⟩ = W.cell? ⟨b, o, none⟩) (hr : Row W a len zs) : Row w0 a len zs := hr.below h.1
theorem held_first {W : World} : Below W.heap.size W W.drew ∧ ∀ b o, b < W.heap.size → W.drew.cell? ⟨b, o, none⟩ = W.cell? ⟨b, o, none⟩ :=
  ⟨below_drewN (Below.refl _ _) 1, fun _ _ _ => rfl⟩
theorem held_then {W w0 w' : World} (h : Below W.heap.size W w0 ∧ ∀ b o, b < W.heap.size → w0.cell? ⟨b, o, none⟩ = W.cell? ⟨b, o, none⟩) (k : Below w0.heap.size w0 w') : Below W.heap.size W w' ∧ ∀ b o, b < W.heap.size → w'.cell? ⟨b, o, none⟩ = W.cell? ⟨b, o, none⟩ :=
  ⟨bthen h.1 k, (bcell (bthen h.1 k)).1⟩
theorem sameV_self (b f : Int) (bi fi : Bool) (k s : Int) (wd : Bool) (zs : List Int) : sameV b f bi fi k s wd zs b f bi fi k s wd zs = true := by simp [sameV]
theorem same_long_one (b f : Int) (bi fi : Bool) (k s : Int) (wd : Bool) (a : Option Addr) (len cap : Nat) (zs : List Int) (b' f' : Int) (bi' fi' : Bool) (k' s' : Int) (wd' : Bool) (a' : Option Addr) (len' cap' : Nat) (zs' : List Int) (one : Bool) (n : Int) (h : 300 < len) (w : World) : Calls Try.prog 4 #[.agg #[.int .u8 b, .int .u8 f, .bool bi, .bool fi, .int .u8 k, .int .u8 s, .bool wd, .slice a len cap], .agg #[.int .u8 b', .int .u8 f', .bool bi', .bool fi', .int .u8 k', .int .u8 s', .bool wd', .slice a' len' cap'], .bool one, .int .u8 n] w fun e w' => e = .returned (.bool true) ∧ Below w.heap.size w w' := by
  have h1 : (300 : Int) < len := by omega
  have hA : Below w.heap.size w (w.alloc (.cells #[.int .u8 b, .int .u8 f, .bool bi, .bool fi, .int .u8 k, .int .u8 s, .bool wd, .slice a len cap] 24)) := (Below.refl _ _).alloc (Nat.le_refl _) _
  have hA2 := hA.alloc (by simp) (.cells #[.int .u8 b', .int .u8 f', .bool bi', .bool fi', .int .u8 k', .int .u8 s', .bool wd', .slice a' len' cap'] 24)
  have hK := (Blk.new w (#[.int .u8 b, .int .u8 f, .bool bi, .bool fi, .int .u8 k, .int .u8 s, .bool wd, .slice a len cap]).toList 24).alloc (.cells #[.int .u8 b', .int .u8 f', .bool bi', .bool fi', .int .u8 k', .int .u8 s', .bool wd', .slice a' len' cap'] 24)
  have hL := (Blk.new (w.alloc (.cells #[.int .u8 b, .int .u8 f, .bool bi, .bool fi, .int .u8 k, .int .u8 s, .bool wd, .slice a len cap] 24)) (#[.int .u8 b', .int .u8 f', .bool bi', .bool fi', .int .u8 k', .int .u8 s', .bool wd', .slice a' len' cap']).toList 24)
  go_enter Try.func4, Try.ntmps4
  go_wp2_with fail
  refine (awake_is _).mono ?_
  rintro e w1 ⟨rfl, hb1⟩
  have hB1 := bthen hA2 hb1
  have c7 := (hK.below hb1).cell 7 rfl
  have d7 := (hL.below hb1).cell 7 rfl
  simp only [World.size_alloc] at d7
  clear hK hL
  go_wp2_with fail
  refine (awake_is _).mono ?_
  rintro e w2 ⟨rfl, hb2⟩
  have hB2 := bthen hB1 hb2
  go_wp2
  go_ret
  exact ⟨rfl, hB2⟩
theorem same_long_two (b f : Int) (bi fi : Bool) (k s : Int) (wd : Bool) (a : Option Addr) (len cap : Nat) (zs : List Int) (b' f' : Int) (bi' fi' : Bool) (k' s' : Int) (wd' : Bool) (a' : Option Addr) (len' cap' : Nat) (zs' : List Int) (one : Bool) (n : Int) (h0 : len ≤ 300) (h : 300 < len') (w : World) : Calls Try.prog 4 #[.agg #[.int .u8 b, .int .u8 f, .bool bi, .bool fi, .int .u8 k, .int .u8 s, .bool wd, .slice a len cap], .agg #[.int .u8 b', .int .u8 f', .bool bi', .bool fi', .int .u8 k', .int .u8 s', .bool wd', .slice a' len' cap'], .bool one, .int .u8 n] w fun e w' => e = .returned (.bool true) ∧ Below w.heap.size w w' := by
  have h1 : ¬ (300 : Int) < len := by omega
  have h2 : (300 : Int) < len' := by omega
  have hA : Below w.heap.size w (w.alloc (.cells #[.int .u8 b, .int .u8 f, .bool bi, .bool fi, .int .u8 k, .int .u8 s, .bool wd, .slice a len cap] 24)) := (Below.refl _ _).alloc (Nat.le_refl _) _
  have hA2 := hA.alloc (by simp) (.cells #[.int .u8 b', .int .u8 f', .bool bi', .bool fi', .int .u8 k', .int .u8 s', .bool wd', .slice a' len' cap'] 24)
  have hK := (Blk.new w (#[.int .u8 b, .int .u8 f, .bool bi, .bool fi, .int .u8 k, .int .u8 s, .bool wd, .slice a len cap]).toList 24).alloc (.cells #[.int .u8 b', .int .u8 f', .bool bi', .bool fi', .int .u8 k', .int .u8 s', .bool wd', .slice a' len' cap'] 24)
  have hL := (Blk.new (w.alloc (.cells #[.int .u8 b, .int .u8 f, .bool bi, .bool fi, .int .u8 k, .int .u8 s, .bool wd, .slice a len cap] 24)) (#[.int .u8 b', .int .u8 f', .bool bi', .bool fi', .int .u8 k', .int .u8 s', .bool wd', .slice a' len' cap']).toList 24)
  go_enter Try.func4, Try.ntmps4
  go_wp2_with fail
  refine (awake_is _).mono ?_
  rintro e w1 ⟨rfl, hb1⟩
  have hB1 := bthen hA2 hb1
  have c7 := (hK.below hb1).cell 7 rfl
  have d7 := (hL.below hb1).cell 7 rfl
  simp only [World.size_alloc] at d7
  clear hK hL
  go_wp2_with fail
  refine (awake_is _).mono ?_
  rintro e w2 ⟨rfl, hb2⟩
  have hB2 := bthen hB1 hb2
  go_wp2
  go_ret
  exact ⟨rfl, hB2⟩
set_option maxHeartbeats 4000000 in
theorem same_no (b f : Int) (bi fi : Bool) (k s : Int) (wd : Bool) (a : Option Addr) (len cap : Nat) (zs : List Int) (b' f' : Int) (bi' fi' : Bool) (k' s' : Int) (wd' : Bool) (a' : Option Addr) (len' cap' : Nat) (zs' : List Int) (n : Int) (hn0 : 0 ≤ n) (hn1 : n ≤ 255) (w : World) (h : len ≤ 300) (h' : len' ≤ 300) (hr : Row w a len zs) (hr' : Row w a' len' zs') : Calls Try.prog 4 #[.agg #[.int .u8 b, .int .u8 f, .bool bi, .bool fi, .int .u8 k, .int .u8 s, .bool wd, .slice a len cap], .agg #[.int .u8 b', .int .u8 f', .bool bi', .bool fi', .int .u8 k', .int .u8 s', .bool wd', .slice a' len' cap'], .bool false, .int .u8 n] w fun e w' => e = .returned (.bool true) ∧ Below w.heap.size w w' := by
  have h1 : ¬ (300 : Int) < len := by omega
  have h2 : ¬ (300 : Int) < len' := by omega
  have hA : Below w.heap.size w (w.alloc (.cells #[.int .u8 b, .int .u8 f, .bool bi, .bool fi, .int .u8 k, .int .u8 s, .bool wd, .slice a len cap] 24)) := (Below.refl _ _).alloc (Nat.le_refl _) _
  have hA2 := hA.alloc (by simp) (.cells #[.int .u8 b', .int .u8 f', .bool bi', .bool fi', .int .u8 k', .int .u8 s', .bool wd', .slice a' len' cap'] 24)
  have hK := (Blk.new w (#[.int .u8 b, .int .u8 f, .bool bi, .bool fi, .int .u8 k, .int .u8 s, .bool wd, .slice a len cap]).toList 24).alloc (.cells #[.int .u8 b', .int .u8 f', .bool bi', .bool fi', .int .u8 k', .int .u8 s', .bool wd', .slice a' len' cap'] 24)
  have hL := (Blk.new (w.alloc (.cells #[.int .u8 b, .int .u8 f, .bool bi, .bool fi, .int .u8 k, .int .u8 s, .bool wd, .slice a len cap] 24)) (#[.int .u8 b', .int .u8 f', .bool bi', .bool fi', .int .u8 k', .int .u8 s', .bool wd', .slice a' len' cap']).toList 24)
  simp only [World.size_alloc] at hL
  have HR := Lib.hid (hr.below hA2)
  have HR' := Lib.hid (hr'.below hA2)
  clear hA hr hr'
  go_enter Try.func4, Try.ntmps4
  go_wp2_with fail
  refine (awake_is _).mono ?_
  rintro e w1 ⟨rfl, hb1⟩
  have hB1 := bthen hA2 hb1
  have hK1 := hK.below hb1
  have hL1 := hL.below hb1
  replace HR := Lib.hid (HR.out.below hb1)
  replace HR' := Lib.hid (HR'.out.below hb1)
  clear hb1 hK hL hA2
  generalize w.heap.size + 1 = B at *
  have hs1 := hB1.size
  have hKB := hK1.lt
  have hLB := hL1.lt
  have c7 := hK1.cell 7 rfl
  have d7 := hL1.cell 7 rfl
  have hB2 := hB1.alloc hs1 (.cells #[.string { data := #[83, 73, 79] }, .string { data := #[83, 73, 78] }, .string { data := #[83, 73, 69] }, .string { data := #[83, 73, 79, 83] }, .string { data := #[83, 73, 80, 79] }, .string { data := #[83, 73, 66] }] 9)
  have hK2 := hK1.alloc (.cells #[.string { data := #[83, 73, 79] }, .string { data := #[83, 73, 78] }, .string { data := #[83, 73, 69] }, .string { data := #[83, 73, 79, 83] }, .string { data := #[83, 73, 80, 79] }, .string { data := #[83, 73, 66] }] 9)
  have hL2 := hL1.alloc (.cells #[.string { data := #[83, 73, 79] }, .string { data := #[83, 73, 78] }, .string { data := #[83, 73, 69] }, .string { data := #[83, 73, 79, 83] }, .string { data := #[83, 73, 80, 79] }, .string { data := #[83, 73, 66] }] 9)
  replace HR := Lib.hid (HR.out.below ((Below.refl _ _).alloc (Nat.le_refl _) (.cells #[.string { data := #[83, 73, 79] }, .string { data := #[83, 73, 78] }, .string { data := #[83, 73, 69] }, .string { data := #[83, 73, 79, 83] }, .string { data := #[83, 73, 80, 79] }, .string { data := #[83, 73, 66] }] 9)))
  replace HR' := Lib.hid (HR'.out.below ((Below.refl _ _).alloc (Nat.le_refl _) (.cells #[.string { data := #[83, 73, 79] }, .string { data := #[83, 73, 78] }, .string { data := #[83, 73, 69] }, .string { data := #[83, 73, 79, 83] }, .string { data := #[83, 73, 80, 79] }, .string { data := #[83, 73, 66] }] 9)))
  clear hK1 hL1 hB1
  rcases (by omega : n = 0 ∨ n = 1 ∨ n = 2 ∨ n = 3 ∨ n = 4 ∨ n = 5 ∨ 6 ≤ n) with g | g | g | g | g | g | g
  · have hn : nameV n = { data := #[83, 73, 79] } := by rw [g]; rfl
    subst g
    go_upto_region 11 with fail
    clear c7 d7 hKB hLB
    generalize w1.alloc (.cells #[.string { data := #[83, 73, 79] }, .string { data := #[83, 73, 78] }, .string { data := #[83, 73, 69] }, .string { data := #[83, 73, 79, 83] }, .string { data := #[83, 73, 80, 79] }, .string { data := #[83, 73, 66] }] 9) = W at *
    have hS : ∀ w' : World, Below W.heap.size W w' → (Below W.heap.size W w' ∧ w'.cell? ⟨w.heap.size, 0, none⟩ = some (.int .u8 b) ∧ w'.cell? ⟨w.heap.size, 1, none⟩ = some (.int .u8 f) ∧ w'.cell? ⟨w.heap.size, 2, none⟩ = some (.bool bi) ∧ w'.cell? ⟨w.heap.size, 3, none⟩ = some (.bool fi) ∧ w'.cell? ⟨w.heap.size, 4, none⟩ = some (.int .u8 k) ∧ w'.cell? ⟨w.heap.size, 5, none⟩ = some (.int .u8 s) ∧ w'.cell? ⟨w.heap.size, 6, none⟩ = some (.bool wd) ∧ w'.cell? ⟨w.heap.size, 7, none⟩ = some (.slice a len cap) ∧ w'.cell? ⟨B, 0, none⟩ = some (.int .u8 b') ∧ w'.cell? ⟨B, 1, none⟩ = some (.int .u8 f') ∧ w'.cell? ⟨B, 2, none⟩ = some (.bool bi') ∧ w'.cell? ⟨B, 3, none⟩ = some (.bool fi') ∧ w'.cell? ⟨B, 4, none⟩ = some (.int .u8 k') ∧ w'.cell? ⟨B, 5, none⟩ = some (.int .u8 s') ∧ w'.cell? ⟨B, 6, none⟩ = some (.bool wd') ∧ w'.cell? ⟨B, 7, none⟩ = some (.slice a' len' cap')) := fun w' h => ⟨h, (hK2.below h).cell 0 rfl, (hK2.below h).cell 1 rfl, (hK2.below h).cell 2 rfl, (hK2.below h).cell 3 rfl, (hK2.below h).cell 4 rfl, (hK2.below h).cell 5 rfl, (hK2.below h).cell 6 rfl, (hK2.below h).cell 7 rfl, (hL2.below h).cell 0 rfl, (hL2.below h).cell 1 rfl, (hL2.below h).cell 2 rfl, (hL2.below h).cell 3 rfl, (hL2.below h).cell 4 rfl, (hL2.below h).cell 5 rfl, (hL2.below h).cell 6 rfl, (hL2.below h).cell 7 rfl⟩
    have HB2 := Lib.hid hB2
    clear hK2 hL2 hs1 hB2
    go_region_held3 (fun w' => Below W.heap.size W w' ∧ w'.cell? ⟨w.heap.size, 0, none⟩ = some (.int .u8 b) ∧ w'.cell? ⟨w.heap.size, 1, none⟩ = some (.int .u8 f) ∧ w'.cell? ⟨w.heap.size, 2, none⟩ = some (.bool bi) ∧ w'.cell? ⟨w.heap.size, 3, none⟩ = some (.bool fi) ∧ w'.cell? ⟨w.heap.size, 4, none⟩ = some (.int .u8 k) ∧ w'.cell? ⟨w.heap.size, 5, none⟩ = some (.int .u8 s) ∧ w'.cell? ⟨w.heap.size, 6, none⟩ = some (.bool wd) ∧ w'.cell? ⟨w.heap.size, 7, none⟩ = some (.slice a len cap) ∧ w'.cell? ⟨B, 0, none⟩ = some (.int .u8 b') ∧ w'.cell? ⟨B, 1, none⟩ = some (.int .u8 f') ∧ w'.cell? ⟨B, 2, none⟩ = some (.bool bi') ∧ w'.cell? ⟨B, 3, none⟩ = some (.bool fi') ∧ w'.cell? ⟨B, 4, none⟩ = some (.int .u8 k') ∧ w'.cell? ⟨B, 5, none⟩ = some (.int .u8 s') ∧ w'.cell? ⟨B, 6, none⟩ = some (.bool wd') ∧ w'.cell? ⟨B, 7, none⟩ = some (.slice a' len' cap')) (first | exact hS _ (below_drewN (Below.refl _ _) 1) | exact hS _ (bthen (And.left (by assumption)) hbq) | go_keep)
      (first | (go_at_call 13; refine (usame_is _ _ _ _ _ _ _ _ _ _ _ _ _ _ _ _ _ _ _ _ _ _ _ (by first | exact HR.out.below (And.left (by assumption)) | exact HR'.out.below (And.left (by assumption))) (by first | exact HR.out.below (And.left (by assumption)) | exact HR'.out.below (And.left (by assumption))) (by omega)).mono ?_; rintro e w' ⟨rfl, hbq⟩; try rw [sameV_self]) | (go_at_call 14; refine (rsame_is _ _ _ _ _ _ _ _ _ _ _ _ _ _ _ _ _ _ _ _ _ _ _ (by first | exact HR.out.below (And.left (by assumption)) | exact HR'.out.below (And.left (by assumption))) (by first | exact HR.out.below (And.left (by assumption)) | exact HR'.out.below (And.left (by assumption))) (by omega)).mono ?_; rintro e w' ⟨rfl, hbq⟩) | (go_at_call 15; refine (name_is _ (by omega) (by omega) _).mono ?_; rintro e w' ⟨rfl, hbq⟩; rw [hn]))
    go_wp2
    go_ret
    exact ⟨rfl, bthen HB2.out (And.left (by assumption))⟩
  · have hn : nameV n = { data := #[83, 73, 78] } := by rw [g]; rfl
    subst g
    go_upto_region 11 with fail
    clear c7 d7 hKB hLB
    generalize w1.alloc (.cells #[.string { data := #[83, 73, 79] }, .string { data := #[83, 73, 78] }, .string { data := #[83, 73, 69] }, .string { data := #[83, 73, 79, 83] }, .string { data := #[83, 73, 80, 79] }, .string { data := #[83, 73, 66] }] 9) = W at *
    have hS : ∀ w' : World, Below W.heap.size W w' → (Below W.heap.size W w' ∧ w'.cell? ⟨w.heap.size, 0, none⟩ = some (.int .u8 b) ∧ w'.cell? ⟨w.heap.size, 1, none⟩ = some (.int .u8 f) ∧ w'.cell? ⟨w.heap.size, 2, none⟩ = some (.bool bi) ∧ w'.cell? ⟨w.heap.size, 3, none⟩ = some (.bool fi) ∧ w'.cell? ⟨w.heap.size, 4, none⟩ = some (.int .u8 k) ∧ w'.cell? ⟨w.heap.size, 5, none⟩ = some (.int .u8 s) ∧ w'.cell? ⟨w.heap.size, 6, none⟩ = some (.bool wd) ∧ w'.cell? ⟨w.heap.size, 7, none⟩ = some (.slice a len cap) ∧ w'.cell? ⟨B, 0, none⟩ = some (.int .u8 b') ∧ w'.cell? ⟨B, 1, none⟩ = some (.int .u8 f') ∧ w'.cell? ⟨B, 2, none⟩ = some (.bool bi') ∧ w'.cell? ⟨B, 3, none⟩ = some (.bool fi') ∧ w'.cell? ⟨B, 4, none⟩ = some (.int .u8 k') ∧ w'.cell? ⟨B, 5, none⟩ = some (.int .u8 s') ∧ w'.cell? ⟨B, 6, none⟩ = some (.bool wd') ∧ w'.cell? ⟨B, 7, none⟩ = some (.slice a' len' cap')) := fun w' h => ⟨h, (hK2.below h).cell 0 rfl, (hK2.below h).cell 1 rfl, (hK2.below h).cell 2 rfl, (hK2.below h).cell 3 rfl, (hK2.below h).cell 4 rfl, (hK2.below h).cell 5 rfl, (hK2.below h).cell 6 rfl, (hK2.below h).cell 7 rfl, (hL2.below h).cell 0 rfl, (hL2.below h).cell 1 rfl, (hL2.below h).cell 2 rfl, (hL2.below h).cell 3 rfl, (hL2.below h).cell 4 rfl, (hL2.below h).cell 5 rfl, (hL2.below h).cell 6 rfl, (hL2.below h).cell 7 rfl⟩
    have HB2 := Lib.hid hB2
    clear hK2 hL2 hs1 hB2
    go_region_held3 (fun w' => Below W.heap.size W w' ∧ w'.cell? ⟨w.heap.size, 0, none⟩ = some (.int .u8 b) ∧ w'.cell? ⟨w.heap.size, 1, none⟩ = some (.int .u8 f) ∧ w'.cell? ⟨w.heap.size, 2, none⟩ = some (.bool bi) ∧ w'.cell? ⟨w.heap.size, 3, none⟩ = some (.bool fi) ∧ w'.cell? ⟨w.heap.size, 4, none⟩ = some (.int .u8 k) ∧ w'.cell? ⟨w.heap.size, 5, none⟩ = some (.int .u8 s) ∧ w'.cell? ⟨w.heap.size, 6, none⟩ = some (.bool wd) ∧ w'.cell? ⟨w.heap.size, 7, none⟩ = some (.slice a len cap) ∧ w'.cell? ⟨B, 0, none⟩ = some (.int .u8 b') ∧ w'.cell? ⟨B, 1, none⟩ = some (.int .u8 f') ∧ w'.cell? ⟨B, 2, none⟩ = some (.bool bi') ∧ w'.cell? ⟨B, 3, none⟩ = some (.bool fi') ∧ w'.cell? ⟨B, 4, none⟩ = some (.int .u8 k') ∧ w'.cell? ⟨B, 5, none⟩ = some (.int .u8 s') ∧ w'.cell? ⟨B, 6, none⟩ = some (.bool wd') ∧ w'.cell? ⟨B, 7, none⟩ = some (.slice a' len' cap')) (first | exact hS _ (below_drewN (Below.refl _ _) 1) | exact hS _ (bthen (And.left (by assumption)) hbq) | go_keep)
      (first | (go_at_call 13; refine (usame_is _ _ _ _ _ _ _ _ _ _ _ _ _ _ _ _ _ _ _ _ _ _ _ (by first | exact HR.out.below (And.left (by assumption)) | exact HR'.out.below (And.left (by assumption))) (by first | exact HR.out.below (And.left (by assumption)) | exact HR'.out.below (And.left (by assumption))) (by omega)).mono ?_; rintro e w' ⟨rfl, hbq⟩; try rw [sameV_self]) | (go_at_call 14; refine (rsame_is _ _ _ _ _ _ _ _ _ _ _ _ _ _ _ _ _ _ _ _ _ _ _ (by first | exact HR.out.below (And.left (by assumption)) | exact HR'.out.below (And.left (by assumption))) (by first | exact HR.out.below (And.left (by assumption)) | exact HR'.out.below (And.left (by assumption))) (by omega)).mono ?_; rintro e w' ⟨rfl, hbq⟩) | (go_at_call 15; refine (name_is _ (by omega) (by omega) _).mono ?_; rintro e w' ⟨rfl, hbq⟩; rw [hn]))
    go_wp2
    go_ret
    exact ⟨rfl, bthen HB2.out (And.left (by assumption))⟩
  · have hn : nameV n = { data := #[83, 73, 69] } := by rw [g]; rfl
    subst g
    go_upto_region 11 with fail
    clear c7 d7 hKB hLB
    generalize w1.alloc (.cells #[.string { data := #[83, 73, 79] }, .string { data := #[83, 73, 78] }, .string { data := #[83, 73, 69] }, .string { data := #[83, 73, 79, 83] }, .string { data := #[83, 73, 80, 79] }, .string { data := #[83, 73, 66] }] 9) = W at *
    have hS : ∀ w' : World, Below W.heap.size W w' → (Below W.heap.size W w' ∧ w'.cell? ⟨w.heap.size, 0, none⟩ = some (.int .u8 b) ∧ w'.cell? ⟨w.heap.size, 1, none⟩ = some (.int .u8 f) ∧ w'.cell? ⟨w.heap.size, 2, none⟩ = some (.bool bi) ∧ w'.cell? ⟨w.heap.size, 3, none⟩ = some (.bool fi) ∧ w'.cell? ⟨w.heap.size, 4, none⟩ = some (.int .u8 k) ∧ w'.cell? ⟨w.heap.size, 5, none⟩ = some (.int .u8 s) ∧ w'.cell? ⟨w.heap.size, 6, none⟩ = some (.bool wd) ∧ w'.cell? ⟨w.heap.size, 7, none⟩ = some (.slice a len cap) ∧ w'.cell? ⟨B, 0, none⟩ = some (.int .u8 b') ∧ w'.cell? ⟨B, 1, none⟩ = some (.int .u8 f') ∧ w'.cell? ⟨B, 2, none⟩ = some (.bool bi') ∧ w'.cell? ⟨B, 3, none⟩ = some (.bool fi') ∧ w'.cell? ⟨B, 4, none⟩ = some (.int .u8 k') ∧ w'.cell? ⟨B, 5, none⟩ = some (.int .u8 s') ∧ w'.cell? ⟨B, 6, none⟩ = some (.bool wd') ∧ w'.cell? ⟨B, 7, none⟩ = some (.slice a' len' cap')) := fun w' h => ⟨h, (hK2.below h).cell 0 rfl, (hK2.below h).cell 1 rfl, (hK2.below h).cell 2 rfl, (hK2.below h).cell 3 rfl, (hK2.below h).cell 4 rfl, (hK2.below h).cell 5 rfl, (hK2.below h).cell 6 rfl, (hK2.below h).cell 7 rfl, (hL2.below h).cell 0 rfl, (hL2.below h).cell 1 rfl, (hL2.below h).cell 2 rfl, (hL2.below h).cell 3 rfl, (hL2.below h).cell 4 rfl, (hL2.below h).cell 5 rfl, (hL2.below h).cell 6 rfl, (hL2.below h).cell 7 rfl⟩
    have HB2 := Lib.hid hB2
    clear hK2 hL2 hs1 hB2
    go_region_held3 (fun w' => Below W.heap.size W w' ∧ w'.cell? ⟨w.heap.size, 0, none⟩ = some (.int .u8 b) ∧ w'.cell? ⟨w.heap.size, 1, none⟩ = some (.int .u8 f) ∧ w'.cell? ⟨w.heap.size, 2, none⟩ = some (.bool bi) ∧ w'.cell? ⟨w.heap.size, 3, none⟩ = some (.bool fi) ∧ w'.cell? ⟨w.heap.size, 4, none⟩ = some (.int .u8 k) ∧ w'.cell? ⟨w.heap.size, 5, none⟩ = some (.int .u8 s) ∧ w'.cell? ⟨w.heap.size, 6, none⟩ = some (.bool wd) ∧ w'.cell? ⟨w.heap.size, 7, none⟩ = some (.slice a len cap) ∧ w'.cell? ⟨B, 0, none⟩ = some (.int .u8 b') ∧ w'.cell? ⟨B, 1, none⟩ = some (.int .u8 f') ∧ w'.cell? ⟨B, 2, none⟩ = some (.bool bi') ∧ w'.cell? ⟨B, 3, none⟩ = some (.bool fi') ∧ w'.cell? ⟨B, 4, none⟩ = some (.int .u8 k') ∧ w'.cell? ⟨B, 5, none⟩ = some (.int .u8 s') ∧ w'.cell? ⟨B, 6, none⟩ = some (.bool wd') ∧ w'.cell? ⟨B, 7, none⟩ = some (.slice a' len' cap')) (first | exact hS _ (below_drewN (Below.refl _ _) 1) | exact hS _ (bthen (And.left (by assumption)) hbq) | go_keep)
      (first | (go_at_call 13; refine (usame_is _ _ _ _ _ _ _ _ _ _ _ _ _ _ _ _ _ _ _ _ _ _ _ (by first | exact HR.out.below (And.left (by assumption)) | exact HR'.out.below (And.left (by assumption))) (by first | exact HR.out.below (And.left (by assumption)) | exact HR'.out.below (And.left (by assumption))) (by omega)).mono ?_; rintro e w' ⟨rfl, hbq⟩; try rw [sameV_self]) | (go_at_call 14; refine (rsame_is _ _ _ _ _ _ _ _ _ _ _ _ _ _ _ _ _ _ _ _ _ _ _ (by first | exact HR.out.below (And.left (by assumption)) | exact HR'.out.below (And.left (by assumption))) (by first | exact HR.out.below (And.left (by assumption)) | exact HR'.out.below (And.left (by assumption))) (by omega)).mono ?_; rintro e w' ⟨rfl, hbq⟩) | (go_at_call 15; refine (name_is _ (by omega) (by omega) _).mono ?_; rintro e w' ⟨rfl, hbq⟩; rw [hn]))
    go_wp2
    go_ret
    exact ⟨rfl, bthen HB2.out (And.left (by assumption))⟩
  · have hn : nameV n = { data := #[83, 73, 79, 83] } := by rw [g]; rfl
    subst g
    go_upto_region 11 with fail
    clear c7 d7 hKB hLB
    generalize w1.alloc (.cells #[.string { data := #[83, 73, 79] }, .string { data := #[83, 73, 78] }, .string { data := #[83, 73, 69] }, .string { data := #[83, 73, 79, 83] }, .string { data := #[83, 73, 80, 79] }, .string { data := #[83, 73, 66] }] 9) = W at *
    have hS : ∀ w' : World, Below W.heap.size W w' → (Below W.heap.size W w' ∧ w'.cell? ⟨w.heap.size, 0, none⟩ = some (.int .u8 b) ∧ w'.cell? ⟨w.heap.size, 1, none⟩ = some (.int .u8 f) ∧ w'.cell? ⟨w.heap.size, 2, none⟩ = some (.bool bi) ∧ w'.cell? ⟨w.heap.size, 3, none⟩ = some (.bool fi) ∧ w'.cell? ⟨w.heap.size, 4, none⟩ = some (.int .u8 k) ∧ w'.cell? ⟨w.heap.size, 5, none⟩ = some (.int .u8 s) ∧ w'.cell? ⟨w.heap.size, 6, none⟩ = some (.bool wd) ∧ w'.cell? ⟨w.heap.size, 7, none⟩ = some (.slice a len cap) ∧ w'.cell? ⟨B, 0, none⟩ = some (.int .u8 b') ∧ w'.cell? ⟨B, 1, none⟩ = some (.int .u8 f') ∧ w'.cell? ⟨B, 2, none⟩ = some (.bool bi') ∧ w'.cell? ⟨B, 3, none⟩ = some (.bool fi') ∧ w'.cell? ⟨B, 4, none⟩ = some (.int .u8 k') ∧ w'.cell? ⟨B, 5, none⟩ = some (.int .u8 s') ∧ w'.cell? ⟨B, 6, none⟩ = some (.bool wd') ∧ w'.cell? ⟨B, 7, none⟩ = some (.slice a' len' cap')) := fun w' h => ⟨h, (hK2.below h).cell 0 rfl, (hK2.below h).cell 1 rfl, (hK2.below h).cell 2 rfl, (hK2.below h).cell 3 rfl, (hK2.below h).cell 4 rfl, (hK2.below h).cell 5 rfl, (hK2.below h).cell 6 rfl, (hK2.below h).cell 7 rfl, (hL2.below h).cell 0 rfl, (hL2.below h).cell 1 rfl, (hL2.below h).cell 2 rfl, (hL2.below h).cell 3 rfl, (hL2.below h).cell 4 rfl, (hL2.below h).cell 5 rfl, (hL2.below h).cell 6 rfl, (hL2.below h).cell 7 rfl⟩
    have HB2 := Lib.hid hB2
    clear hK2 hL2 hs1 hB2
    go_region_held3 (fun w' => Below W.heap.size W w' ∧ w'.cell? ⟨w.heap.size, 0, none⟩ = some (.int .u8 b) ∧ w'.cell? ⟨w.heap.size, 1, none⟩ = some (.int .u8 f) ∧ w'.cell? ⟨w.heap.size, 2, none⟩ = some (.bool bi) ∧ w'.cell? ⟨w.heap.size, 3, none⟩ = some (.bool fi) ∧ w'.cell? ⟨w.heap.size, 4, none⟩ = some (.int .u8 k) ∧ w'.cell? ⟨w.heap.size, 5, none⟩ = some (.int .u8 s) ∧ w'.cell? ⟨w.heap.size, 6, none⟩ = some (.bool wd) ∧ w'.cell? ⟨w.heap.size, 7, none⟩ = some (.slice a len cap) ∧ w'.cell? ⟨B, 0, none⟩ = some (.int .u8 b') ∧ w'.cell? ⟨B, 1, none⟩ = some (.int .u8 f') ∧ w'.cell? ⟨B, 2, none⟩ = some (.bool bi') ∧ w'.cell? ⟨B, 3, none⟩ = some (.bool fi') ∧ w'.cell? ⟨B, 4, none⟩ = some (.int .u8 k') ∧ w'.cell? ⟨B, 5, none⟩ = some (.int .u8 s') ∧ w'.cell? ⟨B, 6, none⟩ = some (.bool wd') ∧ w'.cell? ⟨B, 7, none⟩ = some (.slice a' len' cap')) (first | exact hS _ (below_drewN (Below.refl _ _) 1) | exact hS _ (bthen (And.left (by assumption)) hbq) | go_keep)
      (first | (go_at_call 13; refine (usame_is _ _ _ _ _ _ _ _ _ _ _ _ _ _ _ _ _ _ _ _ _ _ _ (by first | exact HR.out.below (And.left (by assumption)) | exact HR'.out.below (And.left (by assumption))) (by first | exact HR.out.below (And.left (by assumption)) | exact HR'.out.below (And.left (by assumption))) (by omega)).mono ?_; rintro e w' ⟨rfl, hbq⟩; try rw [sameV_self]) | (go_at_call 14; refine (rsame_is _ _ _ _ _ _ _ _ _ _ _ _ _ _ _ _ _ _ _ _ _ _ _ (by first | exact HR.out.below (And.left (by assumption)) | exact HR'.out.below (And.left (by assumption))) (by first | exact HR.out.below (And.left (by assumption)) | exact HR'.out.below (And.left (by assumption))) (by omega)).mono ?_; rintro e w' ⟨rfl, hbq⟩) | (go_at_call 15; refine (name_is _ (by omega) (by omega) _).mono ?_; rintro e w' ⟨rfl, hbq⟩; rw [hn]))
    go_wp2
    go_ret
    exact ⟨rfl, bthen HB2.out (And.left (by assumption))⟩
  · have hn : nameV n = { data := #[83, 73, 80, 79] } := by rw [g]; rfl
    subst g
    go_upto_region 11 with fail
    clear c7 d7 hKB hLB
    generalize w1.alloc (.cells #[.string { data := #[83, 73, 79] }, .string { data := #[83, 73, 78] }, .string { data := #[83, 73, 69] }, .string { data := #[83, 73, 79, 83] }, .string { data := #[83, 73, 80, 79] }, .string { data := #[83, 73, 66] }] 9) = W at *
    have hS : ∀ w' : World, Below W.heap.size W w' → (Below W.heap.size W w' ∧ w'.cell? ⟨w.heap.size, 0, none⟩ = some (.int .u8 b) ∧ w'.cell? ⟨w.heap.size, 1, none⟩ = some (.int .u8 f) ∧ w'.cell? ⟨w.heap.size, 2, none⟩ = some (.bool bi) ∧ w'.cell? ⟨w.heap.size, 3, none⟩ = some (.bool fi) ∧ w'.cell? ⟨w.heap.size, 4, none⟩ = some (.int .u8 k) ∧ w'.cell? ⟨w.heap.size, 5, none⟩ = some (.int .u8 s) ∧ w'.cell? ⟨w.heap.size, 6, none⟩ = some (.bool wd) ∧ w'.cell? ⟨w.heap.size, 7, none⟩ = some (.slice a len cap) ∧ w'.cell? ⟨B, 0, none⟩ = some (.int .u8 b') ∧ w'.cell? ⟨B, 1, none⟩ = some (.int .u8 f') ∧ w'.cell? ⟨B, 2, none⟩ = some (.bool bi') ∧ w'.cell? ⟨B, 3, none⟩ = some (.bool fi') ∧ w'.cell? ⟨B, 4, none⟩ = some (.int .u8 k') ∧ w'.cell? ⟨B, 5, none⟩ = some (.int .u8 s') ∧ w'.cell? ⟨B, 6, none⟩ = some (.bool wd') ∧ w'.cell? ⟨B, 7, none⟩ = some (.slice a' len' cap')) := fun w' h => ⟨h, (hK2.below h).cell 0 rfl, (hK2.below h).cell 1 rfl, (hK2.below h).cell 2 rfl, (hK2.below h).cell 3 rfl, (hK2.below h).cell 4 rfl, (hK2.below h).cell 5 rfl, (hK2.below h).cell 6 rfl, (hK2.below h).cell 7 rfl, (hL2.below h).cell 0 rfl, (hL2.below h).cell 1 rfl, (hL2.below h).cell 2 rfl, (hL2.below h).cell 3 rfl, (hL2.below h).cell 4 rfl, (hL2.below h).cell 5 rfl, (hL2.below h).cell 6 rfl, (hL2.below h).cell 7 rfl⟩
    have HB2 := Lib.hid hB2
    clear hK2 hL2 hs1 hB2
    go_region_held3 (fun w' => Below W.heap.size W w' ∧ w'.cell? ⟨w.heap.size, 0, none⟩ = some (.int .u8 b) ∧ w'.cell? ⟨w.heap.size, 1, none⟩ = some (.int .u8 f) ∧ w'.cell? ⟨w.heap.size, 2, none⟩ = some (.bool bi) ∧ w'.cell? ⟨w.heap.size, 3, none⟩ = some (.bool fi) ∧ w'.cell? ⟨w.heap.size, 4, none⟩ = some (.int .u8 k) ∧ w'.cell? ⟨w.heap.size, 5, none⟩ = some (.int .u8 s) ∧ w'.cell? ⟨w.heap.size, 6, none⟩ = some (.bool wd) ∧ w'.cell? ⟨w.heap.size, 7, none⟩ = some (.slice a len cap) ∧ w'.cell? ⟨B, 0, none⟩ = some (.int .u8 b') ∧ w'.cell? ⟨B, 1, none⟩ = some (.int .u8 f') ∧ w'.cell? ⟨B, 2, none⟩ = some (.bool bi') ∧ w'.cell? ⟨B, 3, none⟩ = some (.bool fi') ∧ w'.cell? ⟨B, 4, none⟩ = some (.int .u8 k') ∧ w'.cell? ⟨B, 5, none⟩ = some (.int .u8 s') ∧ w'.cell? ⟨B, 6, none⟩ = some (.bool wd') ∧ w'.cell? ⟨B, 7, none⟩ = some (.slice a' len' cap')) (first | exact hS _ (below_drewN (Below.refl _ _) 1) | exact hS _ (bthen (And.left (by assumption)) hbq) | go_keep)
      (first | (go_at_call 13; refine (usame_is _ _ _ _ _ _ _ _ _ _ _ _ _ _ _ _ _ _ _ _ _ _ _ (by first | exact HR.out.below (And.left (by assumption)) | exact HR'.out.below (And.left (by assumption))) (by first | exact HR.out.below (And.left (by assumption)) | exact HR'.out.below (And.left (by assumption))) (by omega)).mono ?_; rintro e w' ⟨rfl, hbq⟩; try rw [sameV_self]) | (go_at_call 14; refine (rsame_is _ _ _ _ _ _ _ _ _ _ _ _ _ _ _ _ _ _ _ _ _ _ _ (by first | exact HR.out.below (And.left (by assumption)) | exact HR'.out.below (And.left (by assumption))) (by first | exact HR.out.below (And.left (by assumption)) | exact HR'.out.below (And.left (by assumption))) (by omega)).mono ?_; rintro e w' ⟨rfl, hbq⟩) | (go_at_call 15; refine (name_is _ (by omega) (by omega) _).mono ?_; rintro e w' ⟨rfl, hbq⟩; rw [hn]))
    go_wp2
    go_ret
    exact ⟨rfl, bthen HB2.out (And.left (by assumption))⟩
  · have hn : nameV n = { data := #[83, 73, 66] } := by rw [g]; rfl
    subst g
    go_upto_region 11 with fail
    clear c7 d7 hKB hLB
    generalize w1.alloc (.cells #[.string { data := #[83, 73, 79] }, .string { data := #[83, 73, 78] }, .string { data := #[83, 73, 69] }, .string { data := #[83, 73, 79, 83] }, .string { data := #[83, 73, 80, 79] }, .string { data := #[83, 73, 66] }] 9) = W at *
    have hS : ∀ w' : World, Below W.heap.size W w' → (Below W.heap.size W w' ∧ w'.cell? ⟨w.heap.size, 0, none⟩ = some (.int .u8 b) ∧ w'.cell? ⟨w.heap.size, 1, none⟩ = some (.int .u8 f) ∧ w'.cell? ⟨w.heap.size, 2, none⟩ = some (.bool bi) ∧ w'.cell? ⟨w.heap.size, 3, none⟩ = some (.bool fi) ∧ w'.cell? ⟨w.heap.size, 4, none⟩ = some (.int .u8 k) ∧ w'.cell? ⟨w.heap.size, 5, none⟩ = some (.int .u8 s) ∧ w'.cell? ⟨w.heap.size, 6, none⟩ = some (.bool wd) ∧ w'.cell? ⟨w.heap.size, 7, none⟩ = some (.slice a len cap) ∧ w'.cell? ⟨B, 0, none⟩ = some (.int .u8 b') ∧ w'.cell? ⟨B, 1, none⟩ = some (.int .u8 f') ∧ w'.cell? ⟨B, 2, none⟩ = some (.bool bi') ∧ w'.cell? ⟨B, 3, none⟩ = some (.bool fi') ∧ w'.cell? ⟨B, 4, none⟩ = some (.int .u8 k') ∧ w'.cell? ⟨B, 5, none⟩ = some (.int .u8 s') ∧ w'.cell? ⟨B, 6, none⟩ = some (.bool wd') ∧ w'.cell? ⟨B, 7, none⟩ = some (.slice a' len' cap')) := fun w' h => ⟨h, (hK2.below h).cell 0 rfl, (hK2.below h).cell 1 rfl, (hK2.below h).cell 2 rfl, (hK2.below h).cell 3 rfl, (hK2.below h).cell 4 rfl, (hK2.below h).cell 5 rfl, (hK2.below h).cell 6 rfl, (hK2.below h).cell 7 rfl, (hL2.below h).cell 0 rfl, (hL2.below h).cell 1 rfl, (hL2.below h).cell 2 rfl, (hL2.below h).cell 3 rfl, (hL2.below h).cell 4 rfl, (hL2.below h).cell 5 rfl, (hL2.below h).cell 6 rfl, (hL2.below h).cell 7 rfl⟩
    have HB2 := Lib.hid hB2
    clear hK2 hL2 hs1 hB2
    go_region_held3 (fun w' => Below W.heap.size W w' ∧ w'.cell? ⟨w.heap.size, 0, none⟩ = some (.int .u8 b) ∧ w'.cell? ⟨w.heap.size, 1, none⟩ = some (.int .u8 f) ∧ w'.cell? ⟨w.heap.size, 2, none⟩ = some (.bool bi) ∧ w'.cell? ⟨w.heap.size, 3, none⟩ = some (.bool fi) ∧ w'.cell? ⟨w.heap.size, 4, none⟩ = some (.int .u8 k) ∧ w'.cell? ⟨w.heap.size, 5, none⟩ = some (.int .u8 s) ∧ w'.cell? ⟨w.heap.size, 6, none⟩ = some (.bool wd) ∧ w'.cell? ⟨w.heap.size, 7, none⟩ = some (.slice a len cap) ∧ w'.cell? ⟨B, 0, none⟩ = some (.int .u8 b') ∧ w'.cell? ⟨B, 1, none⟩ = some (.int .u8 f') ∧ w'.cell? ⟨B, 2, none⟩ = some (.bool bi') ∧ w'.cell? ⟨B, 3, none⟩ = some (.bool fi') ∧ w'.cell? ⟨B, 4, none⟩ = some (.int .u8 k') ∧ w'.cell? ⟨B, 5, none⟩ = some (.int .u8 s') ∧ w'.cell? ⟨B, 6, none⟩ = some (.bool wd') ∧ w'.cell? ⟨B, 7, none⟩ = some (.slice a' len' cap')) (first | exact hS _ (below_drewN (Below.refl _ _) 1) | exact hS _ (bthen (And.left (by assumption)) hbq) | go_keep)
      (first | (go_at_call 13; refine (usame_is _ _ _ _ _ _ _ _ _ _ _ _ _ _ _ _ _ _ _ _ _ _ _ (by first | exact HR.out.below (And.left (by assumption)) | exact HR'.out.below (And.left (by assumption))) (by first | exact HR.out.below (And.left (by assumption)) | exact HR'.out.below (And.left (by assumption))) (by omega)).mono ?_; rintro e w' ⟨rfl, hbq⟩; try rw [sameV_self]) | (go_at_call 14; refine (rsame_is _ _ _ _ _ _ _ _ _ _ _ _ _ _ _ _ _ _ _ _ _ _ _ (by first | exact HR.out.below (And.left (by assumption)) | exact HR'.out.below (And.left (by assumption))) (by first | exact HR.out.below (And.left (by assumption)) | exact HR'.out.below (And.left (by assumption))) (by omega)).mono ?_; rintro e w' ⟨rfl, hbq⟩) | (go_at_call 15; refine (name_is _ (by omega) (by omega) _).mono ?_; rintro e w' ⟨rfl, hbq⟩; rw [hn]))
    go_wp2
    go_ret
    exact ⟨rfl, bthen HB2.out (And.left (by assumption))⟩
  · have hn : nameV n = { data := #[] } := nameV_none g
    go_upto_region 11 with fail
    clear c7 d7 hKB hLB
    generalize w1.alloc (.cells #[.string { data := #[83, 73, 79] }, .string { data := #[83, 73, 78] }, .string { data := #[83, 73, 69] }, .string { data := #[83, 73, 79, 83] }, .string { data := #[83, 73, 80, 79] }, .string { data := #[83, 73, 66] }] 9) = W at *
    have hS : ∀ w' : World, Below W.heap.size W w' → (Below W.heap.size W w' ∧ w'.cell? ⟨w.heap.size, 0, none⟩ = some (.int .u8 b) ∧ w'.cell? ⟨w.heap.size, 1, none⟩ = some (.int .u8 f) ∧ w'.cell? ⟨w.heap.size, 2, none⟩ = some (.bool bi) ∧ w'.cell? ⟨w.heap.size, 3, none⟩ = some (.bool fi) ∧ w'.cell? ⟨w.heap.size, 4, none⟩ = some (.int .u8 k) ∧ w'.cell? ⟨w.heap.size, 5, none⟩ = some (.int .u8 s) ∧ w'.cell? ⟨w.heap.size, 6, none⟩ = some (.bool wd) ∧ w'.cell? ⟨w.heap.size, 7, none⟩ = some (.slice a len cap) ∧ w'.cell? ⟨B, 0, none⟩ = some (.int .u8 b') ∧ w'.cell? ⟨B, 1, none⟩ = some (.int .u8 f') ∧ w'.cell? ⟨B, 2, none⟩ = some (.bool bi') ∧ w'.cell? ⟨B, 3, none⟩ = some (.bool fi') ∧ w'.cell? ⟨B, 4, none⟩ = some (.int .u8 k') ∧ w'.cell? ⟨B, 5, none⟩ = some (.int .u8 s') ∧ w'.cell? ⟨B, 6, none⟩ = some (.bool wd') ∧ w'.cell? ⟨B, 7, none⟩ = some (.slice a' len' cap')) := fun w' h => ⟨h, (hK2.below h).cell 0 rfl, (hK2.below h).cell 1 rfl, (hK2.below h).cell 2 rfl, (hK2.below h).cell 3 rfl, (hK2.below h).cell 4 rfl, (hK2.below h).cell 5 rfl, (hK2.below h).cell 6 rfl, (hK2.below h).cell 7 rfl, (hL2.below h).cell 0 rfl, (hL2.below h).cell 1 rfl, (hL2.below h).cell 2 rfl, (hL2.below h).cell 3 rfl, (hL2.below h).cell 4 rfl, (hL2.below h).cell 5 rfl, (hL2.below h).cell 6 rfl, (hL2.below h).cell 7 rfl⟩
    have HB2 := Lib.hid hB2
    clear hK2 hL2 hs1 hB2
    go_region_held3 (fun w' => Below W.heap.size W w' ∧ w'.cell? ⟨w.heap.size, 0, none⟩ = some (.int .u8 b) ∧ w'.cell? ⟨w.heap.size, 1, none⟩ = some (.int .u8 f) ∧ w'.cell? ⟨w.heap.size, 2, none⟩ = some (.bool bi) ∧ w'.cell? ⟨w.heap.size, 3, none⟩ = some (.bool fi) ∧ w'.cell? ⟨w.heap.size, 4, none⟩ = some (.int .u8 k) ∧ w'.cell? ⟨w.heap.size, 5, none⟩ = some (.int .u8 s) ∧ w'.cell? ⟨w.heap.size, 6, none⟩ = some (.bool wd) ∧ w'.cell? ⟨w.heap.size, 7, none⟩ = some (.slice a len cap) ∧ w'.cell? ⟨B, 0, none⟩ = some (.int .u8 b') ∧ w'.cell? ⟨B, 1, none⟩ = some (.int .u8 f') ∧ w'.cell? ⟨B, 2, none⟩ = some (.bool bi') ∧ w'.cell? ⟨B, 3, none⟩ = some (.bool fi') ∧ w'.cell? ⟨B, 4, none⟩ = some (.int .u8 k') ∧ w'.cell? ⟨B, 5, none⟩ = some (.int .u8 s') ∧ w'.cell? ⟨B, 6, none⟩ = some (.bool wd') ∧ w'.cell? ⟨B, 7, none⟩ = some (.slice a' len' cap')) (first | exact hS _ (below_drewN (Below.refl _ _) 1) | exact hS _ (bthen (And.left (by assumption)) hbq) | go_keep)
      (first | (go_at_call 13; refine (usame_is _ _ _ _ _ _ _ _ _ _ _ _ _ _ _ _ _ _ _ _ _ _ _ (by first | exact HR.out.below (And.left (by assumption)) | exact HR'.out.below (And.left (by assumption))) (by first | exact HR.out.below (And.left (by assumption)) | exact HR'.out.below (And.left (by assumption))) (by omega)).mono ?_; rintro e w' ⟨rfl, hbq⟩; try rw [sameV_self]) | (go_at_call 14; refine (rsame_is _ _ _ _ _ _ _ _ _ _ _ _ _ _ _ _ _ _ _ _ _ _ _ (by first | exact HR.out.below (And.left (by assumption)) | exact HR'.out.below (And.left (by assumption))) (by first | exact HR.out.below (And.left (by assumption)) | exact HR'.out.below (And.left (by assumption))) (by omega)).mono ?_; rintro e w' ⟨rfl, hbq⟩) | (go_at_call 15; refine (name_is _ (by omega) (by omega) _).mono ?_; rintro e w' ⟨rfl, hbq⟩; rw [hn]))
    go_wp2
    go_ret
    exact ⟨rfl, bthen HB2.out (And.left (by assumption))⟩
end Go.Proofs.Ytpgalefpccgpfaa
