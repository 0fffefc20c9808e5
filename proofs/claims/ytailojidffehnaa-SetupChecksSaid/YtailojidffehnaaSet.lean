/-
  The contracts of setup's functions, and of the law's example.
-/
import Derived.Test.YtailojidffehnaaRing
import Derived.WalkKit
import Derived.Below
import Derived.WalkLawsBesides
import Derived.WalkSpells
import Derived.OpenShut
import Derived.Lib.Hide
namespace Go.Proofs.Ytailojidffehnaa
open Go.RowKit
set_option linter.unusedVariables false
set_option linter.unusedSimpArgs false

theorem bthen {w w1 w2 : World} (h : Below w.heap.size w w1) (k : Below w1.heap.size w1 w2) : Below w.heap.size w w2 := h.trans (k.mono h.size)

theorem bcell {W w1 : World} (hb : Below W.heap.size W w1) : (∀ b o, b < W.heap.size → w1.cell? ⟨b, o, none⟩ = W.cell? ⟨b, o, none⟩) ∧ (∀ b o, b < W.heap.size → w1.frozen? ⟨b, o, none⟩ = W.frozen? ⟨b, o, none⟩) :=
  ⟨fun b o h => hb.cell (p := ⟨b, o, none⟩) h, fun b o h => hb.frozen (p := ⟨b, o, none⟩) h⟩

def unitT (k : Int) : Int := if k < 0 then 2 else (8 * k + (8 * k) / 5 + 15) / 8 + 1

theorem unit_any (k : Int) (h0 : -4294967296 ≤ k) (h1 : k ≤ 4294967296) (w : World) : Calls Try.prog 31 #[.int .i64 k] w fun e w' => e = .returned (.int .i64 (unitT k)) ∧ w = w' := by
  by_cases hk : k < 0
  · have hu : Hid (unitT k = 2) := by show unitT k = 2; unfold unitT; rw [if_pos hk]
    go_enter Try.func31, Try.ntmps31
    go_wp2
    go_ret
    exact ⟨ret_int (by rw [hu.out]), rfl⟩
  · have hu : Hid (unitT k = (k * 8 + k * 8 / 5 + 8 + 7) / 8 + 1) := by show unitT k = _; unfold unitT; rw [if_neg hk]; omega
    go_enter Try.func31, Try.ntmps31
    go_wp2
    go_ret
    exact ⟨ret_int (by rw [hu.out]), rfl⟩

def usualV (c : Bool) : Value := .agg #[.bool c, .int .i64 8, .int .i64 300, .int .i64 16, .int .i64 600, .int .i64 600, .int .i64 12000, .int .i64 8000, .int .i64 4000, .int .i64 1200, .int .i64 100, .int .i64 4000, .int .i64 6000]
theorem usual_any (c : Bool) (w : World) : Calls Try.prog 29 #[.bool c] w fun e w' => e = .returned (usualV c) ∧ Below w.heap.size w w' := by
  go_enter Try.func29, Try.ntmps29
  go_wp2
  refine bodyPost_ret (v := .agg #[.bool c, .int .i64 8, .int .i64 300, .int .i64 16, .int .i64 600, .int .i64 600, .int .i64 12000, .int .i64 8000, .int .i64 4000, .int .i64 1200, .int .i64 100, .int .i64 4000, .int .i64 6000]) ?_ rfl ?_
  · simp [results, Try.results29, go_sem]
  · exact ⟨rfl, (Below.refl _ _).alloc (Nat.le_refl _) _⟩

/-- Is a number from a least one up to a greatest one? -/
def inB (n lo hi : Int) : Bool := decide (lo ≤ n) && decide (n ≤ hi)
theorem inB_iff (n lo hi : Int) : inB n lo hi = true ↔ lo ≤ n ∧ n ≤ hi := by simp [inB]

theorem within_int (n lo hi : Int) (w : World) : Calls Try.prog 34 #[.int .i64 n, .int .i64 lo, .int .i64 hi] w fun e w' => e = .returned (.bool (inB n lo hi)) ∧ w = w' := by
  by_cases h1 : lo ≤ n
  · by_cases h2 : n ≤ hi
    · have hx : Hid (inB n lo hi = true) := (inB_iff n lo hi).2 ⟨h1, h2⟩
      go_enter Try.func34, Try.ntmps34
      go_wp2
      go_ret
      exact ⟨ret_bool (by rw [hx.out]), rfl⟩
    · have hx : Hid (inB n lo hi = false) := by show inB n lo hi = false; simp [inB]; omega
      go_enter Try.func34, Try.ntmps34
      go_wp2
      go_ret
      exact ⟨ret_bool (by rw [hx.out]), rfl⟩
  · have hx : Hid (inB n lo hi = false) := by show inB n lo hi = false; simp [inB]; omega
    go_enter Try.func34, Try.ntmps34
    go_wp2
    go_ret
    exact ⟨ret_bool (by rw [hx.out]), rfl⟩

/-- What Check answers, of a setup by its numbers. -/
def okT (t : List Int) : Bool := t.all fun x => inB x 1 4294967296
def checkN (n1 n2 ho oc : Int) : Bool := inB n1 1 127 && inB n2 1 1048576 && inB ho 1 512 && inB oc 273 1048576
def checkV (n1 n2 ho oc : Int) (t : List Int) : Int :=
  if okT t = true then (if checkN n1 n2 ho oc = true then (if t.getD 4 0 < t.getD 0 0 ∨ t.getD 6 0 ≤ t.getD 5 0 then 10 else 0) else 1) else 1

theorem okT_step {t : List Int} {k : Nat} {x : Int} (hx : t[k]? = some x) (h : okT (t.take k) = true) (hb : inB x 1 4294967296 = true) : okT (t.take (k + 1)) = true := by
  unfold okT at *
  rw [List.take_add_one, hx, List.all_append, h]
  simp [hb]
theorem okT_bad {t : List Int} {k : Nat} {x : Int} (hx : t[k]? = some x) (hb : inB x 1 4294967296 = false) : okT t = false := by
  unfold okT
  rw [List.all_eq_false]
  exact ⟨x, List.mem_of_getElem? hx, by simp [hb]⟩

def setupV (c : Bool) (n1 n2 ho oc t0 t1 t2 t3 t4 t5 t6 t7 : Int) : Value :=
  .agg #[.bool c, .int .i64 n1, .int .i64 n2, .int .i64 ho, .int .i64 oc, .int .i64 t0, .int .i64 t1, .int .i64 t2, .int .i64 t3, .int .i64 t4, .int .i64 t5, .int .i64 t6, .int .i64 t7]

set_option maxHeartbeats 1000000 in
set_option maxRecDepth 100000 in
theorem check_any (c : Bool) (n1 n2 ho oc t0 t1 t2 t3 t4 t5 t6 t7 : Int) (w : World) :
    Calls Try.prog 30 #[.agg #[.bool c, .int .i64 n1, .int .i64 n2, .int .i64 ho, .int .i64 oc, .int .i64 t0, .int .i64 t1, .int .i64 t2, .int .i64 t3, .int .i64 t4, .int .i64 t5, .int .i64 t6, .int .i64 t7]] w
      fun e w' => e = .returned (.int .i64 (checkV n1 n2 ho oc [t0, t1, t2, t3, t4, t5, t6, t7])) ∧ Below w.heap.size w w' := by
  go_enter Try.func30, Try.ntmps30
  go_wp2
  go_loop [7] (fun i => ∃ k : Nat, k ≤ 8 ∧ i = .int .i64 k ∧ okT (([t0, t1, t2, t3, t4, t5, t6, t7] : List Int).take k) = true) (fun i => 8 - (intOf i).toNat)
  case atStart => exact ⟨0, by omega, rfl, rfl⟩
  case round =>
    obtain ⟨k, hk, rfl, hok⟩ := hrel
    have H := Lib.hid hok
    clear hok
    by_cases h8 : k = 8
    · subst h8
      have hall : Hid (okT [t0, t1, t2, t3, t4, t5, t6, t7] = true) := H.out
      clear H
      have hge : decide (((8 : Nat) : Int) < 8) = false := by decide
      cases b1 : inB n1 1 127
      · have hv : Hid (checkV n1 n2 ho oc [t0, t1, t2, t3, t4, t5, t6, t7] = 1) := by show checkV _ _ _ _ _ = 1; unfold checkV checkN; rw [hall.out, b1]; rfl
        go_wp2_with (go_at_call 34; refine (within_int _ _ _ _).mono ?_; rintro e w' ⟨rfl, rfl⟩)
        go_ret
        exact ⟨ret_int (by rw [hv.out]), (Below.refl _ _).alloc (Nat.le_refl _) _⟩
      · cases b2 : inB n2 1 1048576
        · have hv : Hid (checkV n1 n2 ho oc [t0, t1, t2, t3, t4, t5, t6, t7] = 1) := by show checkV _ _ _ _ _ = 1; unfold checkV checkN; rw [hall.out, b1, b2]; rfl
          go_wp2_with (go_at_call 34; refine (within_int _ _ _ _).mono ?_; rintro e w' ⟨rfl, rfl⟩)
          go_ret
          exact ⟨ret_int (by rw [hv.out]), (Below.refl _ _).alloc (Nat.le_refl _) _⟩
        · cases b3 : inB ho 1 512
          · have hv : Hid (checkV n1 n2 ho oc [t0, t1, t2, t3, t4, t5, t6, t7] = 1) := by show checkV _ _ _ _ _ = 1; unfold checkV checkN; rw [hall.out, b1, b2, b3]; rfl
            go_wp2_with (go_at_call 34; refine (within_int _ _ _ _).mono ?_; rintro e w' ⟨rfl, rfl⟩)
            go_ret
            exact ⟨ret_int (by rw [hv.out]), (Below.refl _ _).alloc (Nat.le_refl _) _⟩
          · cases b4 : inB oc 273 1048576
            · have hv : Hid (checkV n1 n2 ho oc [t0, t1, t2, t3, t4, t5, t6, t7] = 1) := by show checkV _ _ _ _ _ = 1; unfold checkV checkN; rw [hall.out, b1, b2, b3, b4]; rfl
              go_wp2_with (go_at_call 34; refine (within_int _ _ _ _).mono ?_; rintro e w' ⟨rfl, rfl⟩)
              go_ret
              exact ⟨ret_int (by rw [hv.out]), (Below.refl _ _).alloc (Nat.le_refl _) _⟩
            · by_cases c1 : t4 < t0
              · have hv : Hid (checkV n1 n2 ho oc [t0, t1, t2, t3, t4, t5, t6, t7] = 10) := by show checkV _ _ _ _ _ = 10; unfold checkV checkN; rw [hall.out, b1, b2, b3, b4]; simp [c1]
                go_wp2_with (go_at_call 34; refine (within_int _ _ _ _).mono ?_; rintro e w' ⟨rfl, rfl⟩)
                go_ret
                exact ⟨ret_int (by rw [hv.out]), (Below.refl _ _).alloc (Nat.le_refl _) _⟩
              · by_cases c2 : t6 ≤ t5
                · have hv : Hid (checkV n1 n2 ho oc [t0, t1, t2, t3, t4, t5, t6, t7] = 10) := by show checkV _ _ _ _ _ = 10; unfold checkV checkN; rw [hall.out, b1, b2, b3, b4]; simp [c2]
                  go_wp2_with (go_at_call 34; refine (within_int _ _ _ _).mono ?_; rintro e w' ⟨rfl, rfl⟩)
                  go_ret
                  exact ⟨ret_int (by rw [hv.out]), (Below.refl _ _).alloc (Nat.le_refl _) _⟩
                · have hv : Hid (checkV n1 n2 ho oc [t0, t1, t2, t3, t4, t5, t6, t7] = 0) := by show checkV _ _ _ _ _ = 0; unfold checkV checkN; rw [hall.out, b1, b2, b3, b4]; simp [c1, c2]
                  go_wp2_with (go_at_call 34; refine (within_int _ _ _ _).mono ?_; rintro e w' ⟨rfl, rfl⟩)
                  go_ret
                  exact ⟨ret_int (by rw [hv.out]), (Below.refl _ _).alloc (Nat.le_refl _) _⟩
    · obtain ⟨x, hx⟩ : ∃ x, [t0, t1, t2, t3, t4, t5, t6, t7][k]? = some x := ⟨_, List.getElem?_eq_getElem (by simp; omega)⟩
      have hi : ∀ W : World, (Instr.index 42 (.agg #[.int .i64 t0, .int .i64 t1, .int .i64 t2, .int .i64 t3, .int .i64 t4, .int .i64 t5, .int .i64 t6, .int .i64 t7]) (.int .i64 k)).run Try.prog W = .ok (.int .i64 x) W := by
        have hk8 : k = 0 ∨ k = 1 ∨ k = 2 ∨ k = 3 ∨ k = 4 ∨ k = 5 ∨ k = 6 ∨ k = 7 := by omega
        intro W
        rcases hk8 with rfl | rfl | rfl | rfl | rfl | rfl | rfl | rfl <;> (simp at hx; subst hx; kernel_rfl)
      have hlt : decide ((k : Int) < 8) = true := by simp; omega
      have hx := Lib.hid hx
      cases hb : inB x 1 4294967296
      · have hv : Hid (checkV n1 n2 ho oc [t0, t1, t2, t3, t4, t5, t6, t7] = 1) := by show checkV _ _ _ _ _ = 1; unfold checkV; rw [okT_bad hx.out hb]; rfl
        go_wp2_with (go_at_call 34; refine (within_int _ _ _ _).mono ?_; rintro e w' ⟨rfl, rfl⟩)
        go_ret
        exact ⟨ret_int (by rw [hv.out]), (Below.refl _ _).alloc (Nat.le_refl _) _⟩
      · have hn := Lib.hid (okT_step hx.out H.out hb)
        go_wp2_with (go_at_call 34; refine (within_int _ _ _ _).mono ?_; rintro e w' ⟨rfl, rfl⟩)
        exact ⟨⟨k + 1, by omega, by go_num, hn.out⟩, by simp [intOf]; omega⟩

theorem awake9_any (w : World) : Calls Try.prog 28 #[] w fun e w' => e = .returned (.bool true) ∧ Below w.heap.size w w' := by
  have u5 : unitT 5 = 8 := by decide
  have k1 : checkV 8 300 16 600 [600, 12000, 8000, 4000, 1200, 100, 4000, 6000] = 0 := by decide
  have hB := Below.refl w.heap.size w
  go_enter Try.func28, Try.ntmps28
  go_wp2_with (first | (go_at_call 31; refine (unit_any _ (by omega) (by omega) _).mono ?_; rintro e w' ⟨rfl, rfl⟩) | (go_at_call 29; refine (usual_any _ _).mono ?_; rintro e w' ⟨rfl, hb⟩; unfold usualV; replace hB := bthen hB hb) | (go_at_call 30; refine (check_any _ _ _ _ _ _ _ _ _ _ _ _ _ _).mono ?_; rintro e w' ⟨rfl, hb⟩; replace hB := bthen hB hb))
  go_ret
  exact ⟨rfl, hB⟩

theorem setupUsual_row (c : Bool) (w : World) : Calls Try.prog 13 #[.bool c] w fun e w' => e = .returned (.bool true) ∧ Below w.heap.size w w' := by
  have hB := Below.refl w.heap.size w
  have heq : ∀ W : World, (Op.equalIn 10000 42 (.agg #[.int .i64 600, .int .i64 12000, .int .i64 8000, .int .i64 4000, .int .i64 1200, .int .i64 100, .int .i64 4000, .int .i64 6000]) (.agg #[.int .i64 600, .int .i64 12000, .int .i64 8000, .int .i64 4000, .int .i64 1200, .int .i64 100, .int .i64 4000, .int .i64 6000])).run Try.prog W = .ok true W := fun W => by kernel_rfl
  go_enter Try.func13, Try.ntmps13
  go_wp2_with (first | (go_at_call 28; refine (awake9_any _).mono ?_; rintro e w' ⟨rfl, hb⟩; obtain ⟨hc, hf⟩ := bcell hb; replace hB := bthen (hB.alloc hB.size _) hb; clear hb) | (go_at_call 29; refine (usual_any _ _).mono ?_; rintro e w' ⟨rfl, hb⟩; unfold usualV; replace hB := bthen hB hb))
  go_ret
  exact ⟨rfl, hB⟩
end Go.Proofs.Ytailojidffehnaa
