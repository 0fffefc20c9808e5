/-
  Two units that are one.
-/
import Derived.Laws.IdiomStrings
import Derived.Test.YtadheikcgdhcdaaHxP
namespace Go.Proofs.Ytadheikcgdhcdaa
open Go.RowKit
set_option linter.unusedVariables false
set_option linter.unusedSimpArgs false

theorem Oct.below {w w' : World} {v : Value} {x : List Int} (h : Oct w v x) (hb : Below w.heap.size w w') : Oct w' v x := by
  obtain ⟨a, c, rfl, hc⟩ := h
  refine ⟨a, c, rfl, fun j u hj => ?_⟩
  obtain ⟨ad, rfl, h2⟩ := hc j u hj
  exact ⟨ad, rfl, by rw [← h2]; exact hb.cell (World.block_lt_of_cell? _ _ h2)⟩
theorem Oct.drewN {w : World} {v : Value} {x : List Int} (h : Oct w v x) (n : Nat) : Oct (w.drewN n) v x := h.below (below_drewN (Below.refl _ _) n)
/-- Octets as a string. -/
theorem Oct.str {w : World} {v : Value} {x : List Int} (h : Oct w v x) (hx : ∀ z ∈ x, 0 ≤ z ∧ z < 256) : (convert 33 9 v).run Try.prog w = .ok (.string (strOfNums x)) w := by
  obtain ⟨a, c, rfl, hc⟩ := h
  by_cases h0 : x.length = 0
  · obtain rfl := List.eq_nil_of_length_eq_zero h0
    cases a with
    | none => exact run_convert_bytes_nil w 33 5 Try.underlying33 Try.underlying5 0 c 9 Try.underlying9
    | some ad => exact run_convert_bytes_back w 33 9 5 ad c [] Try.underlying33 Try.underlying5 Try.underlying9 (fun j hj => absurd hj (by simp))
  · obtain ⟨u, hu⟩ : ∃ u, (x.map (Value.int .u8))[0]? = some u := ⟨_, List.getElem?_eq_getElem (by simp; omega)⟩
    obtain ⟨ad, rfl, -⟩ := hc 0 u hu
    have hl : (x.map fun n => UInt8.ofNat n.toNat).length = x.length := by simp
    have := run_convert_bytes_back w 33 9 5 ad c (x.map fun n => UInt8.ofNat n.toNat) Try.underlying33 Try.underlying5 Try.underlying9 (fun j hj => by
      have hj2 : j < x.length := by simpa using hj
      obtain ⟨y, hy, hcl⟩ := hc j (.int .u8 x[j]) (by simp [hj2])
      cases hy
      have hb := hx _ (List.getElem_mem hj2)
      rw [hcl]
      simp only [List.getElem_map, UInt8.toNat_ofNat', Nat.reducePow]
      congr 2
      omega)
    rw [hl] at this
    exact this
set_option maxRecDepth 100000 in
theorem same_true (b f : Int) (bi fi : Bool) (k s : Int) (wd : Bool) (v v' : Value) (x : List Int) (w : World) (h : Oct w v x) (h' : Oct w v' x) (hx : ∀ z ∈ x, 0 ≤ z ∧ z < 256) :
    Calls Try.prog 56 #[.agg #[.int .u8 b, .int .u8 f, .bool bi, .bool fi, .int .u8 k, .int .u8 s, .bool wd, v], .agg #[.int .u8 b, .int .u8 f, .bool bi, .bool fi, .int .u8 k, .int .u8 s, .bool wd, v']] w fun e w' => e = .returned (.bool true) ∧ Below w.heap.size w w' := by
  have hb1 : Below w.heap.size w ((w.alloc (.cells #[.int .u8 b, .int .u8 f, .bool bi, .bool fi, .int .u8 k, .int .u8 s, .bool wd, v] 69)).alloc (.cells #[.int .u8 b, .int .u8 f, .bool bi, .bool fi, .int .u8 k, .int .u8 s, .bool wd, v'] 69)) := ((Below.refl _ _).alloc (Nat.le_refl _) _).alloc (by simp) _
  have s1 := (h.below hb1).str hx
  have s2 := (h'.below hb1).str hx
  obtain ⟨a, c, rfl, -⟩ := h
  obtain ⟨a', c', rfl, -⟩ := h'
  go_enter Try.func56, Try.ntmps56
  go_wp2
  go_ret
  exact ⟨rfl, hb1⟩
end Go.Proofs.Ytadheikcgdhcdaa
