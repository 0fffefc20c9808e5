/-
  A slice of acts on a way that came in: two octets each, and a unit.
-/
import Derived.Test.YtadheikcgdhcdaaHpA
namespace Go.Proofs.Ytadheikcgdhcdaa
open Go.RowKit Go.ChangeShapes Go.WideShapes
set_option linter.unusedVariables false
set_option linter.unusedSimpArgs false

/-- A unit that came in. -/
structure UnI where
  bsn : Int
  fsn : Int
  bib : Bool
  fib : Bool
  kind : Int
  st : Int
  wd : Bool
  p : List Int
structure UnI.ok (u : UnI) : Prop where
  bsn : 0 ≤ u.bsn ∧ u.bsn ≤ 255
  fsn : 0 ≤ u.fsn ∧ u.fsn ≤ 255
  kind : 0 ≤ u.kind ∧ u.kind ≤ 255
  st : 0 ≤ u.st ∧ u.st ≤ 255
  p : ∀ z ∈ u.p, 0 ≤ z ∧ z < 256
def UnI.cells (u : UnI) (v : Value) : List Value := [.int .u8 u.bsn, .int .u8 u.fsn, .bool u.bib, .bool u.fib, .int .u8 u.kind, .int .u8 u.st, .bool u.wd, v]
/-- Acts of two octets and a unit. -/
def Cacts (W : World) (a : Option Addr) (len : Nat) : Prop := ∀ i, i < len → ∃ x k y u v, a = some x ∧ (∀ j z, ((.int .u8 k :: .int .u8 y :: UnI.cells u v : List Value))[j]? = some z → W.cell? ((x.add (i * 10)).add j) = some z) ∧ (0 ≤ k ∧ k ≤ 255) ∧ (0 ≤ y ∧ y ≤ 255) ∧ u.ok ∧ Oct W v u.p
theorem open_cacts {H : Type} {enc : TypeId × Value → H} {W : World} {fuel : Nat} {v : Value} {y : DataW H × List MemPlace} (h : DataW.trod enc Try.prog W 0 (fun _ => true) true fuel 80 [v] = some y) : ∃ a len cap, ∃ zs : List Int, v = .slice a len cap ∧ (Cacts W a len ∧ len ≤ maxLen) := by
  have he : flat Try.prog 6 83 = some [.int .u8, .int .u8, .int .u8, .int .u8, .bool, .bool, .int .u8, .int .u8, .bool, .sl 33] := by kernel_rfl
  rcases Go.Deep.open_slice Try.underlying80 h with ⟨hcs, _⟩ | ⟨x, l, c, m, n, D, Pl, hcs, _, hl, hm, hmm, _, hel⟩
  · exact ⟨none, 0, 0, [], by simpa using hcs, fun i hi => absurd hi (Nat.not_lt_zero i), Nat.zero_le _⟩
  · refine ⟨some x, l, c, [], by simpa using hcs, fun i hi => ?_, Nat.le_trans hl hm⟩
    have hmc : m = c := by simpa using hmm
    obtain ⟨cs', h1, h2⟩ := hel i (by omega)
    obtain ⟨_, _, rfl, ⟨k, rfl, hk⟩, _, _, rfl, ⟨y, rfl, hy⟩, _, _, rfl, ⟨bsn, rfl, hb⟩, _, _, rfl, ⟨fsn, rfl, hf⟩, _, _, rfl, ⟨bib, rfl⟩, _, _, rfl, ⟨fib, rfl⟩, _, _, rfl, ⟨kind, rfl, hkd⟩, _, _, rfl, ⟨st, rfl, hst⟩, _, _, rfl, ⟨wd, rfl⟩, v, _, rfl, ⟨fu, yy, hs⟩, rfl⟩ := flat_ok 6 _ _ _ _ _ he h2
    obtain ⟨p, ho, hbp⟩ := open_oct33 hs
    rw [show Try.prog.cellsOf 83 = 10 from by kernel_rfl] at h1
    obtain ⟨_, _, h3⟩ := World.cells?_some h1
    have bk := bounds_u8 hk
    have by' := bounds_u8 hy
    have bb := bounds_u8 hb
    have bf := bounds_u8 hf
    have bkd := bounds_u8 hkd
    have bst := bounds_u8 hst
    refine ⟨x, k, y, ⟨bsn, fsn, bib, fib, kind, st, wd, p⟩, v, rfl, fun j z hj => ?_, by omega, by omega, ⟨by show 0 ≤ bsn ∧ bsn ≤ 255; omega, by show 0 ≤ fsn ∧ fsn ≤ 255; omega, by show 0 ≤ kind ∧ kind ≤ 255; omega, by show 0 ≤ st ∧ st ≤ 255; omega, hbp⟩, ho⟩
    have hj' := (List.getElem?_eq_some_iff.1 hj).1
    have hj10 : j < 10 := by simpa [UnI.cells] using hj'
    have := h3 j (by simpa using hj10)
    rw [this]
    exact hj
end Go.Proofs.Ytadheikcgdhcdaa
