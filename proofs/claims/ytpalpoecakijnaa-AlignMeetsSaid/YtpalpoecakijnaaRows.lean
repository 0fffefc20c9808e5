/-
  No cell of these rows narrows 'for every input' (looked for: loops, veiled, ifaces, maps, wideKeys, modest, calm, conditions, laid).
  DERIVED. THE GIVEN ROWS OF THIS SEAT. 12 by the template 'for every input the law returns true; each argument reads behind the call as it read before'; 0 by the template 'total and deterministic' (their statements: YtpalpoecakijnaaTotals.lean).
  GIVEN WITH THE SEED: the statements are not yours to turn. If you find one false, say at which input.
  Laid BY PROGRAM, IN A SANDBOX (cutbox-rows.mjs): the forced cells as the released guide's own fill.sh prints them over the translation f00aace78714fd8c… (all of the seat's roots in one cut). By AI agents, Wed Nov 11 2026. No macro, syntax, notation, axiom, sorry.
-/
import Derived.Test.YtpalpoecakijnaaChecked
import GoSem.Claim
import GoSem.ClaimJoined
import GoSem.ClaimMapViews
import Derived.JoinedTies
import Derived.KernelRfl
namespace Go.Proofs.Ytpalpoecakijnaa
/- THE CELL 'sum', in the pinned program and in every row, IS THE sha256 OF THE DUMP (.gsa) THAT YtpalpoecakijnaaProg.lean LOADS. Nothing in Lean hashes anything: it is a label: what it is worth is what the hold of that sum in a sandbox is worth. -/
noncomputable def Try.pinned : Pinned := { name := "ytpalpoecakijnaa", sum := "f00aace78714fd8cdb8bbd35ce5a3481198c6ba4439de95769d446372e0ed5c2", checked := Try.checked }
namespace Rows
def none {H : Type} : Left H := { results := [], args := [] }

/-- 'signalmanlaw07.ClockBounds': WHATEVER THE INPUT: true; the input reads as it did. -/
def clockBoundsSpec : ChangeSpec := { name := "clockBounds", fn := fun _ => fun
  | [d1, d2] => { results := [.lit (.bool true)], args := [d1, d2] }
  | _ => none }
def clockBoundsRow : OpenClaim := { program := "ytpalpoecakijnaa", sum := "f00aace78714fd8cdb8bbd35ce5a3481198c6ba4439de95769d446372e0ed5c2", func := "signalman/signalmanlaw07.ClockBounds", spec := "clockBounds", apart := false }
def ClockBoundsSaid : Prop := clockBoundsRow.holds Try.pinned (OpenSpec.ofChange clockBoundsSpec)

/-- ITS FALSE NEIGHBOUR: 'it returns false'. Refute it at one input. -/
def clockBoundsWrong : ChangeSpec := { name := "clockBounds", fn := fun _ => fun
  | [d1, d2] => { results := [.lit (.bool false)], args := [d1, d2] }
  | _ => none }
def ClockBoundsWrongFalsely : Prop := clockBoundsRow.holds Try.pinned (OpenSpec.ofChange clockBoundsWrong)

/-- 'signalmanlaw16.JamTells': WHATEVER THE INPUT: true; the input reads as it did. -/
def jamTellsSpec : ChangeSpec := { name := "jamTells", fn := fun _ => fun
  | [d1, d2] => { results := [.lit (.bool true)], args := [d1, d2] }
  | _ => none }
def jamTellsRow : OpenClaim := { program := "ytpalpoecakijnaa", sum := "f00aace78714fd8cdb8bbd35ce5a3481198c6ba4439de95769d446372e0ed5c2", func := "signalman/signalmanlaw16.JamTells", spec := "jamTells", apart := false }
def JamTellsSaid : Prop := jamTellsRow.holds Try.pinned (OpenSpec.ofChange jamTellsSpec)

/-- ITS FALSE NEIGHBOUR: 'it returns false'. Refute it at one input. -/
def jamTellsWrong : ChangeSpec := { name := "jamTells", fn := fun _ => fun
  | [d1, d2] => { results := [.lit (.bool false)], args := [d1, d2] }
  | _ => none }
def JamTellsWrongFalsely : Prop := jamTellsRow.holds Try.pinned (OpenSpec.ofChange jamTellsWrong)

/-- 'signalmanlaw07.ClockPlays': WHATEVER THE INPUT: true; the input reads as it did. -/
def clockPlaysSpec : ChangeSpec := { name := "clockPlays", fn := fun _ => fun
  | [d] => { results := [.lit (.bool true)], args := [d] }
  | _ => none }
def clockPlaysRow : OpenClaim := { program := "ytpalpoecakijnaa", sum := "f00aace78714fd8cdb8bbd35ce5a3481198c6ba4439de95769d446372e0ed5c2", func := "signalman/signalmanlaw07.ClockPlays", spec := "clockPlays", apart := false }
def ClockPlaysSaid : Prop := clockPlaysRow.holds Try.pinned (OpenSpec.ofChange clockPlaysSpec)

/-- ITS FALSE NEIGHBOUR: 'it returns false'. Refute it at one input. -/
def clockPlaysWrong : ChangeSpec := { name := "clockPlays", fn := fun _ => fun
  | [d] => { results := [.lit (.bool false)], args := [d] }
  | _ => none }
def ClockPlaysWrongFalsely : Prop := clockPlaysRow.holds Try.pinned (OpenSpec.ofChange clockPlaysWrong)

/-- 'signalmanlaw07.ClockNil': WHATEVER THE INPUT: true; the input reads as it did. -/
def clockNilSpec : ChangeSpec := { name := "clockNil", fn := fun _ => fun
  | [d1, d2] => { results := [.lit (.bool true)], args := [d1, d2] }
  | _ => none }
def clockNilRow : OpenClaim := { program := "ytpalpoecakijnaa", sum := "f00aace78714fd8cdb8bbd35ce5a3481198c6ba4439de95769d446372e0ed5c2", func := "signalman/signalmanlaw07.ClockNil", spec := "clockNil", apart := false }
def ClockNilSaid : Prop := clockNilRow.holds Try.pinned (OpenSpec.ofChange clockNilSpec)

/-- ITS FALSE NEIGHBOUR: 'it returns false'. Refute it at one input. -/
def clockNilWrong : ChangeSpec := { name := "clockNil", fn := fun _ => fun
  | [d1, d2] => { results := [.lit (.bool false)], args := [d1, d2] }
  | _ => none }
def ClockNilWrongFalsely : Prop := clockNilRow.holds Try.pinned (OpenSpec.ofChange clockNilWrong)

/-- 'signalmanlaw16.JamBound': WHATEVER THE INPUT: true; the input reads as it did. -/
def jamBoundSpec : ChangeSpec := { name := "jamBound", fn := fun _ => fun
  | [d1, d2] => { results := [.lit (.bool true)], args := [d1, d2] }
  | _ => none }
def jamBoundRow : OpenClaim := { program := "ytpalpoecakijnaa", sum := "f00aace78714fd8cdb8bbd35ce5a3481198c6ba4439de95769d446372e0ed5c2", func := "signalman/signalmanlaw16.JamBound", spec := "jamBound", apart := false }
def JamBoundSaid : Prop := jamBoundRow.holds Try.pinned (OpenSpec.ofChange jamBoundSpec)

/-- ITS FALSE NEIGHBOUR: 'it returns false'. Refute it at one input. -/
def jamBoundWrong : ChangeSpec := { name := "jamBound", fn := fun _ => fun
  | [d1, d2] => { results := [.lit (.bool false)], args := [d1, d2] }
  | _ => none }
def JamBoundWrongFalsely : Prop := jamBoundRow.holds Try.pinned (OpenSpec.ofChange jamBoundWrong)

/-- 'signalmanlaw14.AlignStops': WHATEVER THE INPUT: true; the input reads as it did. -/
def alignStopsSpec : ChangeSpec := { name := "alignStops", fn := fun _ => fun
  | [d] => { results := [.lit (.bool true)], args := [d] }
  | _ => none }
def alignStopsRow : OpenClaim := { program := "ytpalpoecakijnaa", sum := "f00aace78714fd8cdb8bbd35ce5a3481198c6ba4439de95769d446372e0ed5c2", func := "signalman/signalmanlaw14.AlignStops", spec := "alignStops", apart := false }
def AlignStopsSaid : Prop := alignStopsRow.holds Try.pinned (OpenSpec.ofChange alignStopsSpec)

/-- ITS FALSE NEIGHBOUR: 'it returns false'. Refute it at one input. -/
def alignStopsWrong : ChangeSpec := { name := "alignStops", fn := fun _ => fun
  | [d] => { results := [.lit (.bool false)], args := [d] }
  | _ => none }
def AlignStopsWrongFalsely : Prop := alignStopsRow.holds Try.pinned (OpenSpec.ofChange alignStopsWrong)

/-- 'signalmanlaw16.JamNil': WHATEVER THE INPUT: true; the input reads as it did. -/
def jamNilSpec : ChangeSpec := { name := "jamNil", fn := fun _ => fun
  | [d1, d2] => { results := [.lit (.bool true)], args := [d1, d2] }
  | _ => none }
def jamNilRow : OpenClaim := { program := "ytpalpoecakijnaa", sum := "f00aace78714fd8cdb8bbd35ce5a3481198c6ba4439de95769d446372e0ed5c2", func := "signalman/signalmanlaw16.JamNil", spec := "jamNil", apart := false }
def JamNilSaid : Prop := jamNilRow.holds Try.pinned (OpenSpec.ofChange jamNilSpec)

/-- ITS FALSE NEIGHBOUR: 'it returns false'. Refute it at one input. -/
def jamNilWrong : ChangeSpec := { name := "jamNil", fn := fun _ => fun
  | [d1, d2] => { results := [.lit (.bool false)], args := [d1, d2] }
  | _ => none }
def JamNilWrongFalsely : Prop := jamNilRow.holds Try.pinned (OpenSpec.ofChange jamNilWrong)

/-- 'signalmanlaw16.JamPlays': WHATEVER THE INPUT: true; the input reads as it did. -/
def jamPlaysSpec : ChangeSpec := { name := "jamPlays", fn := fun _ => fun
  | [d] => { results := [.lit (.bool true)], args := [d] }
  | _ => none }
def jamPlaysRow : OpenClaim := { program := "ytpalpoecakijnaa", sum := "f00aace78714fd8cdb8bbd35ce5a3481198c6ba4439de95769d446372e0ed5c2", func := "signalman/signalmanlaw16.JamPlays", spec := "jamPlays", apart := false }
def JamPlaysSaid : Prop := jamPlaysRow.holds Try.pinned (OpenSpec.ofChange jamPlaysSpec)

/-- ITS FALSE NEIGHBOUR: 'it returns false'. Refute it at one input. -/
def jamPlaysWrong : ChangeSpec := { name := "jamPlays", fn := fun _ => fun
  | [d] => { results := [.lit (.bool false)], args := [d] }
  | _ => none }
def JamPlaysWrongFalsely : Prop := jamPlaysRow.holds Try.pinned (OpenSpec.ofChange jamPlaysWrong)

/-- 'signalmanlaw14.AlignTries': WHATEVER THE INPUT: true; the input reads as it did. -/
def alignTriesSpec : ChangeSpec := { name := "alignTries", fn := fun _ => fun
  | [d1, d2] => { results := [.lit (.bool true)], args := [d1, d2] }
  | _ => none }
def alignTriesRow : OpenClaim := { program := "ytpalpoecakijnaa", sum := "f00aace78714fd8cdb8bbd35ce5a3481198c6ba4439de95769d446372e0ed5c2", func := "signalman/signalmanlaw14.AlignTries", spec := "alignTries", apart := false }
def AlignTriesSaid : Prop := alignTriesRow.holds Try.pinned (OpenSpec.ofChange alignTriesSpec)

/-- ITS FALSE NEIGHBOUR: 'it returns false'. Refute it at one input. -/
def alignTriesWrong : ChangeSpec := { name := "alignTries", fn := fun _ => fun
  | [d1, d2] => { results := [.lit (.bool false)], args := [d1, d2] }
  | _ => none }
def AlignTriesWrongFalsely : Prop := alignTriesRow.holds Try.pinned (OpenSpec.ofChange alignTriesWrong)

/-- 'signalmanlaw14.AlignMeets': WHATEVER THE INPUT: true; the input reads as it did. -/
def alignMeetsSpec : ChangeSpec := { name := "alignMeets", fn := fun _ => fun
  | [d1, d2, d3, d4] => { results := [.lit (.bool true)], args := [d1, d2, d3, d4] }
  | _ => none }
def alignMeetsRow : OpenClaim := { program := "ytpalpoecakijnaa", sum := "f00aace78714fd8cdb8bbd35ce5a3481198c6ba4439de95769d446372e0ed5c2", func := "signalman/signalmanlaw14.AlignMeets", spec := "alignMeets", apart := false }
def AlignMeetsSaid : Prop := alignMeetsRow.holds Try.pinned (OpenSpec.ofChange alignMeetsSpec)

/-- ITS FALSE NEIGHBOUR: 'it returns false'. Refute it at one input. -/
def alignMeetsWrong : ChangeSpec := { name := "alignMeets", fn := fun _ => fun
  | [d1, d2, d3, d4] => { results := [.lit (.bool false)], args := [d1, d2, d3, d4] }
  | _ => none }
def AlignMeetsWrongFalsely : Prop := alignMeetsRow.holds Try.pinned (OpenSpec.ofChange alignMeetsWrong)

/-- 'signalmanlaw14.AlignNil': WHATEVER THE INPUT: true; the input reads as it did. -/
def alignNilSpec : ChangeSpec := { name := "alignNil", fn := fun _ => fun
  | [d1, d2, d3] => { results := [.lit (.bool true)], args := [d1, d2, d3] }
  | _ => none }
def alignNilRow : OpenClaim := { program := "ytpalpoecakijnaa", sum := "f00aace78714fd8cdb8bbd35ce5a3481198c6ba4439de95769d446372e0ed5c2", func := "signalman/signalmanlaw14.AlignNil", spec := "alignNil", apart := false }
def AlignNilSaid : Prop := alignNilRow.holds Try.pinned (OpenSpec.ofChange alignNilSpec)

/-- ITS FALSE NEIGHBOUR: 'it returns false'. Refute it at one input. -/
def alignNilWrong : ChangeSpec := { name := "alignNil", fn := fun _ => fun
  | [d1, d2, d3] => { results := [.lit (.bool false)], args := [d1, d2, d3] }
  | _ => none }
def AlignNilWrongFalsely : Prop := alignNilRow.holds Try.pinned (OpenSpec.ofChange alignNilWrong)

/-- 'signalmanlaw14.AlignWhole': WHATEVER THE INPUT: true; the input reads as it did. -/
def alignWholeSpec : ChangeSpec := { name := "alignWhole", fn := fun _ => fun
  | [d1, d2] => { results := [.lit (.bool true)], args := [d1, d2] }
  | _ => none }
def alignWholeRow : OpenClaim := { program := "ytpalpoecakijnaa", sum := "f00aace78714fd8cdb8bbd35ce5a3481198c6ba4439de95769d446372e0ed5c2", func := "signalman/signalmanlaw14.AlignWhole", spec := "alignWhole", apart := false }
def AlignWholeSaid : Prop := alignWholeRow.holds Try.pinned (OpenSpec.ofChange alignWholeSpec)

/-- ITS FALSE NEIGHBOUR: 'it returns false'. Refute it at one input. -/
def alignWholeWrong : ChangeSpec := { name := "alignWhole", fn := fun _ => fun
  | [d1, d2] => { results := [.lit (.bool false)], args := [d1, d2] }
  | _ => none }
def AlignWholeWrongFalsely : Prop := alignWholeRow.holds Try.pinned (OpenSpec.ofChange alignWholeWrong)

/- THE SECOND FORM. 'bulk': how many values and letters a reading holds, each counted each time it is reached (what is shared counts as often as it is met; a slice's spare places count too). A statement '..UptoSaid' is the law's where the arguments, and the package variables that the reading takes, are together of bulk at most 1048576: NARROWER than '..Said'. Prove '..Said' where nothing that the law and all that it calls make is longer than what came in: it says more and counts as full. Else prove '..UptoSaid'. A law counts once. -/
mutual
def uptoBulk {H : Type} : DataW H → Nat
  | .lit (.string bytes) => bytes.length + 1
  | .lit _ => 1
  | .nil => 1
  | .ptr d => uptoBulk d + 1
  | .slice elems spare => uptoBulkAll elems + uptoBulkAll spare + 1
  | .agg parts => uptoBulkAll parts + 1
  | .iface _ d => uptoBulk d + 1
  | .map entries => uptoBulkEntries entries + 1
  | .held _ => 1
def uptoBulkAll {H : Type} : List (DataW H) → Nat
  | [] => 0
  | d :: r => uptoBulk d + uptoBulkAll r
def uptoBulkEntries {H : Type} : List (Lit × DataW H) → Nat
  | [] => 0
  | x :: r => uptoBulkEntry x + uptoBulkEntries r
def uptoBulkEntry {H : Type} : Lit × DataW H → Nat
  | (.string bytes, d) => bytes.length + uptoBulk d + 1
  | (_, d) => uptoBulk d + 1
 end
def uptoSmall : (H : Type) → List (DataW H) → Bool := fun _ ds => decide (uptoBulkAll ds ≤ 1048576)
def OpenSpec.upto (s : _root_.Go.ChangeSpec) : _root_.Go.OpenSpec := { _root_.Go.OpenSpec.ofChange s with cond := some uptoSmall }

/-- 'signalmanlaw07.ClockBounds', WHERE WHAT IT READS IS OF BULK AT MOST 1048576: true; the input reads as it did. -/
def clockBoundsUptoRow : OpenClaim := { program := "ytpalpoecakijnaa", sum := "f00aace78714fd8cdb8bbd35ce5a3481198c6ba4439de95769d446372e0ed5c2", func := "signalman/signalmanlaw07.ClockBounds", spec := "clockBounds", apart := false, narrowed := true }
def ClockBoundsUptoSaid : Prop := clockBoundsUptoRow.holds Try.pinned (OpenSpec.upto clockBoundsSpec)

/-- 'signalmanlaw16.JamTells', WHERE WHAT IT READS IS OF BULK AT MOST 1048576: true; the input reads as it did. -/
def jamTellsUptoRow : OpenClaim := { program := "ytpalpoecakijnaa", sum := "f00aace78714fd8cdb8bbd35ce5a3481198c6ba4439de95769d446372e0ed5c2", func := "signalman/signalmanlaw16.JamTells", spec := "jamTells", apart := false, narrowed := true }
def JamTellsUptoSaid : Prop := jamTellsUptoRow.holds Try.pinned (OpenSpec.upto jamTellsSpec)

/-- 'signalmanlaw07.ClockPlays', WHERE WHAT IT READS IS OF BULK AT MOST 1048576: true; the input reads as it did. -/
def clockPlaysUptoRow : OpenClaim := { program := "ytpalpoecakijnaa", sum := "f00aace78714fd8cdb8bbd35ce5a3481198c6ba4439de95769d446372e0ed5c2", func := "signalman/signalmanlaw07.ClockPlays", spec := "clockPlays", apart := false, narrowed := true }
def ClockPlaysUptoSaid : Prop := clockPlaysUptoRow.holds Try.pinned (OpenSpec.upto clockPlaysSpec)

/-- 'signalmanlaw07.ClockNil', WHERE WHAT IT READS IS OF BULK AT MOST 1048576: true; the input reads as it did. -/
def clockNilUptoRow : OpenClaim := { program := "ytpalpoecakijnaa", sum := "f00aace78714fd8cdb8bbd35ce5a3481198c6ba4439de95769d446372e0ed5c2", func := "signalman/signalmanlaw07.ClockNil", spec := "clockNil", apart := false, narrowed := true }
def ClockNilUptoSaid : Prop := clockNilUptoRow.holds Try.pinned (OpenSpec.upto clockNilSpec)

/-- 'signalmanlaw16.JamBound', WHERE WHAT IT READS IS OF BULK AT MOST 1048576: true; the input reads as it did. -/
def jamBoundUptoRow : OpenClaim := { program := "ytpalpoecakijnaa", sum := "f00aace78714fd8cdb8bbd35ce5a3481198c6ba4439de95769d446372e0ed5c2", func := "signalman/signalmanlaw16.JamBound", spec := "jamBound", apart := false, narrowed := true }
def JamBoundUptoSaid : Prop := jamBoundUptoRow.holds Try.pinned (OpenSpec.upto jamBoundSpec)

/-- 'signalmanlaw14.AlignStops', WHERE WHAT IT READS IS OF BULK AT MOST 1048576: true; the input reads as it did. -/
def alignStopsUptoRow : OpenClaim := { program := "ytpalpoecakijnaa", sum := "f00aace78714fd8cdb8bbd35ce5a3481198c6ba4439de95769d446372e0ed5c2", func := "signalman/signalmanlaw14.AlignStops", spec := "alignStops", apart := false, narrowed := true }
def AlignStopsUptoSaid : Prop := alignStopsUptoRow.holds Try.pinned (OpenSpec.upto alignStopsSpec)

/-- 'signalmanlaw16.JamNil', WHERE WHAT IT READS IS OF BULK AT MOST 1048576: true; the input reads as it did. -/
def jamNilUptoRow : OpenClaim := { program := "ytpalpoecakijnaa", sum := "f00aace78714fd8cdb8bbd35ce5a3481198c6ba4439de95769d446372e0ed5c2", func := "signalman/signalmanlaw16.JamNil", spec := "jamNil", apart := false, narrowed := true }
def JamNilUptoSaid : Prop := jamNilUptoRow.holds Try.pinned (OpenSpec.upto jamNilSpec)

/-- 'signalmanlaw16.JamPlays', WHERE WHAT IT READS IS OF BULK AT MOST 1048576: true; the input reads as it did. -/
def jamPlaysUptoRow : OpenClaim := { program := "ytpalpoecakijnaa", sum := "f00aace78714fd8cdb8bbd35ce5a3481198c6ba4439de95769d446372e0ed5c2", func := "signalman/signalmanlaw16.JamPlays", spec := "jamPlays", apart := false, narrowed := true }
def JamPlaysUptoSaid : Prop := jamPlaysUptoRow.holds Try.pinned (OpenSpec.upto jamPlaysSpec)

/-- 'signalmanlaw14.AlignTries', WHERE WHAT IT READS IS OF BULK AT MOST 1048576: true; the input reads as it did. -/
def alignTriesUptoRow : OpenClaim := { program := "ytpalpoecakijnaa", sum := "f00aace78714fd8cdb8bbd35ce5a3481198c6ba4439de95769d446372e0ed5c2", func := "signalman/signalmanlaw14.AlignTries", spec := "alignTries", apart := false, narrowed := true }
def AlignTriesUptoSaid : Prop := alignTriesUptoRow.holds Try.pinned (OpenSpec.upto alignTriesSpec)

/-- 'signalmanlaw14.AlignMeets', WHERE WHAT IT READS IS OF BULK AT MOST 1048576: true; the input reads as it did. -/
def alignMeetsUptoRow : OpenClaim := { program := "ytpalpoecakijnaa", sum := "f00aace78714fd8cdb8bbd35ce5a3481198c6ba4439de95769d446372e0ed5c2", func := "signalman/signalmanlaw14.AlignMeets", spec := "alignMeets", apart := false, narrowed := true }
def AlignMeetsUptoSaid : Prop := alignMeetsUptoRow.holds Try.pinned (OpenSpec.upto alignMeetsSpec)

/-- 'signalmanlaw14.AlignNil', WHERE WHAT IT READS IS OF BULK AT MOST 1048576: true; the input reads as it did. -/
def alignNilUptoRow : OpenClaim := { program := "ytpalpoecakijnaa", sum := "f00aace78714fd8cdb8bbd35ce5a3481198c6ba4439de95769d446372e0ed5c2", func := "signalman/signalmanlaw14.AlignNil", spec := "alignNil", apart := false, narrowed := true }
def AlignNilUptoSaid : Prop := alignNilUptoRow.holds Try.pinned (OpenSpec.upto alignNilSpec)

/-- 'signalmanlaw14.AlignWhole', WHERE WHAT IT READS IS OF BULK AT MOST 1048576: true; the input reads as it did. -/
def alignWholeUptoRow : OpenClaim := { program := "ytpalpoecakijnaa", sum := "f00aace78714fd8cdb8bbd35ce5a3481198c6ba4439de95769d446372e0ed5c2", func := "signalman/signalmanlaw14.AlignWhole", spec := "alignWhole", apart := false, narrowed := true }
def AlignWholeUptoSaid : Prop := alignWholeUptoRow.holds Try.pinned (OpenSpec.upto alignWholeSpec)

end Rows
end Go.Proofs.Ytpalpoecakijnaa
