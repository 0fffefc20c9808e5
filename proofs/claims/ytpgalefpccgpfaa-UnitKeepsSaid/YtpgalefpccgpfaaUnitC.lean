/-
  Units: a row that is cloned, or appended to nothing.
-/
import Derived.ArgAppend
import Derived.Test.YtpgalefpccgpfaaUnitS
namespace Go.Proofs.Ytpgalefpccgpfaa
open Go.RowKit
set_option linter.unusedVariables false
set_option linter.unusedSimpArgs false

theorem eqin_nil (d : Nat) (x : Addr) (len cap : Nat) (w : World) : (Op.equalIn (d + 1) 22 (.slice (some x) len cap) (.slice none 0 0)).run Try.prog w = .ok false w := by
  simp [Op.equalIn, run_underlying Try.underlying22]
theorem eq_nil (x : Addr) (len cap : Nat) (w : World) : (binOp .eql 22 (.slice (some x) len cap) (.slice none 0 0)).run Try.prog w = .ok (.bool false) w := by
  have h1 : (Op.equal 22 (.slice (some x) len cap) (.slice none 0 0)).run Try.prog w = .ok false w := eqin_nil 9999 x len cap w
  simp [binOp, h1]
theorem row_hc {w : World} {x : Addr} {len : Nat} {zs : List Int} (h : Row w (some x) len zs) : ∀ j u, (zs.map (Value.int .u8))[j]? = some u → w.cell? (x.add j) = some u := fun j u hj => by
  rw [List.getElem?_map, Option.map_eq_some_iff] at hj
  obtain ⟨n, hn, rfl⟩ := hj
  obtain ⟨y, hy, hc⟩ := h.2.2 j (by have := (List.getElem?_eq_some_iff.1 hn).1; have := h.1; omega)
  cases hy
  rw [hc, List.getD, hn]
  rfl
theorem map_one (zs : List Int) : ∀ u ∈ zs.map (Value.int .u8), u.oneCell' = true := fun u hu => by
  obtain ⟨n, -, rfl⟩ := List.mem_map.1 hu
  rfl
theorem clone_is (a : Option Addr) (len cap : Nat) (zs : List Int) (w : World) (h : 0 < len) (hm : len ≤ 400) (hr : Row w a len zs) : Calls Try.prog 23 #[.slice a len cap] w fun e w' => ∃ g c, e = .returned (.slice (some ⟨g, 0, none⟩) len c) ∧ Below w.heap.size w w' ∧ w'.ownsRow w.heap.size 5 1 (.slice (some ⟨g, 0, none⟩) len c) len (zs.map (.int .u8)) := by
  obtain ⟨x, rfl, -⟩ := hr.2.2 0 h
  have hB : Below w.heap.size w (w.alloc (.cells #[] 5)) := (Below.refl _ _).alloc (Nat.le_refl _) _
  have HR := Lib.hid (hr.below hB)
  obtain ⟨i0, hi, hz0, hz1, hz2⟩ := info_parts info5
  have hq := eq_nil x len cap w
  clear hr
  go_enter Try.func23, Try.ntmps23
  go_wp2_with (refine wpList_append_grows _ rfl (.tmp 5) (.tmp 6) 22 rfl 5 i0 (.int .u8 0) 1 1 Try.underlying22 hi hz0 hz1 hz2 rfl (by decide) (some ⟨w.heap.size, 0, none⟩) 0 0 [] rfl (fun h => by cases h) rfl (fun b hb j u hj => by cases hj) x len cap (zs.map (.int .u8)) rfl (by rw [List.length_map, HR.out.1]; omega) (row_hc HR.out) (map_one zs) (by omega) (by unfold maxLen; omega) (by omega) ?_; intro v' w' hown hgr)
  rw [Nat.zero_add, List.nil_append] at hown
  obtain ⟨g, c, rfl, hg, -⟩ := hown.form h
  refine bodyPost_ret (v := .slice (some ⟨g, 0, none⟩) len c) (by simp [results, Try.results23, go_sem]) rfl ?_
  exact ⟨g, c, rfl, grown_below hgr hB, own_mono hown hB.size⟩
theorem own_row {w : World} {base g len c : Nat} {zs : List Int} (h : w.ownsRow base 5 1 (.slice (some ⟨g, 0, none⟩) len c) len (zs.map (.int .u8))) (hz : ∀ z ∈ zs, 0 ≤ z ∧ z < 256) : Row w (some ⟨g, 0, none⟩) len zs := by
  have hl : zs.length = len := by have := h.1; simpa using this
  refine ⟨hl, hz, fun i hi => ⟨_, rfl, ?_⟩⟩
  rw [Addr.add_lit, Nat.zero_add, h.cellAt i (by omega), List.getElem?_map, List.getD_eq_getElem?_getD, List.getElem?_eq_getElem (by omega)]
  rfl
end Go.Proofs.Ytpgalefpccgpfaa
