/-
  A slice of acts that came in: two octets each, and a message.
-/
import Derived.Test.YtadheikcgdhcdaaFlat
import Derived.Test.YtadheikcgdhcdaaHpR
namespace Go.Proofs.Ytadheikcgdhcdaa
open Go.RowKit Go.ChangeShapes Go.WideShapes
set_option linter.unusedVariables false
set_option linter.unusedSimpArgs false

/-- Acts of two octets and a message. -/
def Hacts (W : World) (a : Option Addr) (len : Nat) : Prop := ∀ i, i < len → ∃ x k y v p, a = some x ∧ W.cell? (x.add (i * 3)) = some (.int .u8 k) ∧ W.cell? (x.add (i * 3 + 1)) = some (.int .u8 y) ∧ W.cell? (x.add (i * 3 + 2)) = some v ∧ (0 ≤ k ∧ k ≤ 255) ∧ (0 ≤ y ∧ y ≤ 255) ∧ Oct W v p ∧ (∀ z ∈ p, 0 ≤ z ∧ z < 256)
theorem open_oct33 {H : Type} {enc : TypeId × Value → H} {W : World} {fuel : Nat} {v : Value} {y : DataW H × List MemPlace} (h : DataW.trod enc Try.prog W 0 (fun _ => true) true fuel 33 [v] = some y) :
    ∃ p, Oct W v p ∧ ∀ z ∈ p, 0 ≤ z ∧ z < 256 := by
  rcases open_ints Try.underlying33 Try.underlying5 (by kernel_rfl) h with ⟨hcs, _⟩ | ⟨x, l, c, zs, hcs, _, hl, hm, hz, _, hcell, hwz⟩
  · have hv : v = .slice none 0 0 := by simpa using hcs
    exact ⟨[], ⟨none, 0, hv, fun j u hj => by simp at hj⟩, by simp⟩
  · have hv : v = .slice (some x) l c := by simpa using hcs
    have hz2 : zs.length = c := by simpa using hz
    have hlen : (zs.take l).length = l := by rw [List.length_take]; omega
    refine ⟨zs.take l, ⟨some x, c, by rw [hlen]; exact hv, fun j u hj => ⟨x, rfl, ?_⟩⟩, fun z hz => ?_⟩
    · rw [List.getElem?_map, Option.map_eq_some_iff] at hj
      obtain ⟨n, hn, rfl⟩ := hj
      have hjl : j < l := by
        have := (List.getElem?_eq_some_iff.1 hn).1
        omega
      rw [hcell j (by omega), List.getD_eq_getElem?_getD]
      rw [List.getElem?_take_of_lt hjl] at hn
      rw [hn]
      rfl
    · have := bounds_u8 (hwz z (List.mem_of_mem_take hz))
      omega
theorem open_hacts {H : Type} {enc : TypeId × Value → H} {W : World} {fuel : Nat} {v : Value} {y : DataW H × List MemPlace} (h : DataW.trod enc Try.prog W 0 (fun _ => true) true fuel 48 [v] = some y) : ∃ a len cap, ∃ zs : List Int, v = .slice a len cap ∧ (Hacts W a len ∧ len ≤ maxLen) := by
  have he : flat Try.prog 6 54 = some [.int .u8, .int .u8, .sl 33] := by kernel_rfl
  rcases Go.Deep.open_slice Try.underlying48 h with ⟨hcs, _⟩ | ⟨x, l, c, m, n, D, Pl, hcs, _, hl, hm, hmm, _, hel⟩
  · exact ⟨none, 0, 0, [], by simpa using hcs, fun i hi => absurd hi (Nat.not_lt_zero i), Nat.zero_le _⟩
  · refine ⟨some x, l, c, [], by simpa using hcs, fun i hi => ?_, Nat.le_trans hl hm⟩
    have hmc : m = c := by simpa using hmm
    obtain ⟨cs', h1, h2⟩ := hel i (by omega)
    obtain ⟨_, _, rfl, ⟨k, rfl, hk⟩, _, _, rfl, ⟨y, rfl, hy⟩, v, _, rfl, ⟨fu, yy, hs⟩, rfl⟩ := flat_ok 6 _ _ _ _ _ he h2
    obtain ⟨p, ho, hb⟩ := open_oct33 hs
    rw [show Try.prog.cellsOf 54 = 3 from by kernel_rfl] at h1
    obtain ⟨_, _, h3⟩ := World.cells?_some h1
    have q0 := h3 0 (by decide)
    have q1 := h3 1 (by decide)
    have q2 := h3 2 (by decide)
    rw [Go.Deep.add_add] at q0 q1 q2
    have bk := bounds_u8 hk
    have by' := bounds_u8 hy
    exact ⟨x, k, y, v, p, rfl, by simpa using q0, by simpa using q1, by simpa using q2, by omega, by omega, ho, hb⟩
end Go.Proofs.Ytadheikcgdhcdaa
