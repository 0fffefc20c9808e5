/-
  A slice of acts that came in: two octets each.
-/
import Derived.Test.YtpalpoecakijnaaFlat
import Derived.Test.YtpalpoecakijnaaAlignTries
namespace Go.Proofs.Ytpalpoecakijnaa
open Go.RowKit Go.ChangeShapes Go.WideShapes
set_option linter.unusedVariables false
set_option linter.unusedSimpArgs false

/-- Acts of two octets. -/
def Acts (w : World) (a : Option Addr) (len : Nat) : Prop := ∀ i, i < len → ∃ x k y, a = some x ∧ w.cell? (x.add (i * 2)) = some (.int .u8 k) ∧ w.cell? (x.add (i * 2 + 1)) = some (.int .u8 y) ∧ (0 ≤ k ∧ k ≤ 255) ∧ (0 ≤ y ∧ y ≤ 255)
theorem Acts.below {w w' : World} {a : Option Addr} {len : Nat} (h : Acts w a len) (hb : Below w.heap.size w w') : Acts w' a len := fun i hi => by
  obtain ⟨x, k, y, e, h1, h2, h3⟩ := h i hi
  exact ⟨x, k, y, e, by rw [← h1]; exact hb.cell (World.block_lt_of_cell? _ _ h1), by rw [← h2]; exact hb.cell (World.block_lt_of_cell? _ _ h2), h3⟩

theorem open_acts {H : Type} {enc : TypeId × Value → H} {W : World} {fuel : Nat} {t e : TypeId} {v : Value} {y : DataW H × List MemPlace} (ht : Try.prog.underlying t = some (.slice e)) (he : flat Try.prog 6 e = some [.int .u8, .int .u8]) (hc : Try.prog.cellsOf e = 2)
    (h : DataW.trod enc Try.prog W 0 (fun _ => true) true fuel t [v] = some y) : ∃ a len cap, v = .slice a len cap ∧ Acts W a len ∧ len ≤ maxLen := by
  rcases Go.Deep.open_slice ht h with ⟨hcs, _⟩ | ⟨x, l, c, m, n, D, Pl, hcs, _, hl, hm, hmm, _, hel⟩
  · exact ⟨none, 0, 0, by simpa using hcs, fun i hi => absurd hi (Nat.not_lt_zero i), Nat.zero_le _⟩
  · refine ⟨some x, l, c, by simpa using hcs, fun i hi => ?_, Nat.le_trans hl hm⟩
    have hmc : m = c := by simpa using hmm
    obtain ⟨cs', h1, h2⟩ := hel i (by omega)
    obtain ⟨_, _, rfl, ⟨k, rfl, hk⟩, _, _, rfl, ⟨y, rfl, hy⟩, rfl⟩ := flat_ok 6 _ _ _ _ _ he h2
    rw [hc] at h1
    obtain ⟨_, _, h3⟩ := World.cells?_some h1
    have q0 := h3 0 (by decide)
    have q1 := h3 1 (by decide)
    rw [Go.Deep.add_add] at q0 q1
    have bk := bounds_u8 hk
    have by' := bounds_u8 hy
    exact ⟨x, k, y, rfl, by simpa using q0, by simpa using q1, by omega, by omega⟩
theorem open_acts75 {H : Type} {enc : TypeId × Value → H} {W : World} {fuel : Nat} {v : Value} {y : DataW H × List MemPlace} (h : DataW.trod enc Try.prog W 0 (fun _ => true) true fuel 75 [v] = some y) : ∃ a len cap, ∃ zs : List Int, v = .slice a len cap ∧ Acts W a len ∧ len ≤ maxLen := by
  obtain ⟨a, len, cap, h1, h2⟩ := open_acts Try.underlying75 (by kernel_rfl) (by kernel_rfl) h
  exact ⟨a, len, cap, [], h1, h2⟩
theorem open_acts58 {H : Type} {enc : TypeId × Value → H} {W : World} {fuel : Nat} {v : Value} {y : DataW H × List MemPlace} (h : DataW.trod enc Try.prog W 0 (fun _ => true) true fuel 58 [v] = some y) : ∃ a len cap, ∃ zs : List Int, v = .slice a len cap ∧ Acts W a len ∧ len ≤ maxLen := by
  obtain ⟨a, len, cap, h1, h2⟩ := open_acts Try.underlying58 (by kernel_rfl) (by kernel_rfl) h
  exact ⟨a, len, cap, [], h1, h2⟩
end Go.Proofs.Ytpalpoecakijnaa
