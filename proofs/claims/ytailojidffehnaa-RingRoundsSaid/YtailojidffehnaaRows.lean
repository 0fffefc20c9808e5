/-
  No cell of these rows narrows 'for every input' (looked for: loops, veiled, ifaces, maps, wideKeys, modest, calm, conditions, laid).
  DERIVED. THE GIVEN ROWS OF THIS SEAT. 12 by the template 'for every input the law returns true; each argument reads behind the call as it read before'; 0 by the template 'total and deterministic' (their statements: YtailojidffehnaaTotals.lean).
  GIVEN WITH THE SEED: the statements are not yours to turn. If you find one false, say at which input.
  Laid BY PROGRAM, IN A SANDBOX (cutbox-rows.mjs): the forced cells as the released guide's own fill.sh prints them over the translation 041a45825b3fd964… (all of the seat's roots in one cut). By AI agents, Wed Nov 11 2026. No macro, syntax, notation, axiom, sorry.
-/
import Derived.Test.YtailojidffehnaaChecked
import GoSem.Claim
import GoSem.ClaimJoined
import GoSem.ClaimMapViews
import Derived.JoinedTies
import Derived.KernelRfl
namespace Go.Proofs.Ytailojidffehnaa
/- THE CELL 'sum', in the pinned program and in every row, IS THE sha256 OF THE DUMP (.gsa) THAT YtailojidffehnaaProg.lean LOADS. Nothing in Lean hashes anything: it is a label: what it is worth is what the hold of that sum in a sandbox is worth. -/
noncomputable def Try.pinned : Pinned := { name := "ytailojidffehnaa", sum := "041a45825b3fd964b5d99405fb5d38f6b083345c4260f776ea895ceeca3fb3e2", checked := Try.checked }
namespace Rows
def none {H : Type} : Left H := { results := [], args := [] }

/-- 'signalmanlaw01.RingGaps': WHATEVER THE INPUT: true; the input reads as it did. -/
def ringGapsSpec : ChangeSpec := { name := "ringGaps", fn := fun _ => fun
  | [d1, d2, d3] => { results := [.lit (.bool true)], args := [d1, d2, d3] }
  | _ => none }
def ringGapsRow : OpenClaim := { program := "ytailojidffehnaa", sum := "041a45825b3fd964b5d99405fb5d38f6b083345c4260f776ea895ceeca3fb3e2", func := "signalman/signalmanlaw01.RingGaps", spec := "ringGaps", apart := false }
def RingGapsSaid : Prop := ringGapsRow.holds Try.pinned (OpenSpec.ofChange ringGapsSpec)

/-- ITS FALSE NEIGHBOUR: 'it returns false'. Refute it at one input. -/
def ringGapsWrong : ChangeSpec := { name := "ringGaps", fn := fun _ => fun
  | [d1, d2, d3] => { results := [.lit (.bool false)], args := [d1, d2, d3] }
  | _ => none }
def RingGapsWrongFalsely : Prop := ringGapsRow.holds Try.pinned (OpenSpec.ofChange ringGapsWrong)

/-- 'signalmanlaw01.RingTurns': WHATEVER THE INPUT: true; the input reads as it did. -/
def ringTurnsSpec : ChangeSpec := { name := "ringTurns", fn := fun _ => fun
  | [d1, d2] => { results := [.lit (.bool true)], args := [d1, d2] }
  | _ => none }
def ringTurnsRow : OpenClaim := { program := "ytailojidffehnaa", sum := "041a45825b3fd964b5d99405fb5d38f6b083345c4260f776ea895ceeca3fb3e2", func := "signalman/signalmanlaw01.RingTurns", spec := "ringTurns", apart := false }
def RingTurnsSaid : Prop := ringTurnsRow.holds Try.pinned (OpenSpec.ofChange ringTurnsSpec)

/-- ITS FALSE NEIGHBOUR: 'it returns false'. Refute it at one input. -/
def ringTurnsWrong : ChangeSpec := { name := "ringTurns", fn := fun _ => fun
  | [d1, d2] => { results := [.lit (.bool false)], args := [d1, d2] }
  | _ => none }
def RingTurnsWrongFalsely : Prop := ringTurnsRow.holds Try.pinned (OpenSpec.ofChange ringTurnsWrong)

/-- 'signalmanlaw01.RingWithin': WHATEVER THE INPUT: true; the input reads as it did. -/
def ringWithinSpec : ChangeSpec := { name := "ringWithin", fn := fun _ => fun
  | [d1, d2, d3] => { results := [.lit (.bool true)], args := [d1, d2, d3] }
  | _ => none }
def ringWithinRow : OpenClaim := { program := "ytailojidffehnaa", sum := "041a45825b3fd964b5d99405fb5d38f6b083345c4260f776ea895ceeca3fb3e2", func := "signalman/signalmanlaw01.RingWithin", spec := "ringWithin", unfollowed := true, recurses := true, apart := false }
def RingWithinSaid : Prop := ringWithinRow.holds Try.pinned (OpenSpec.ofChange ringWithinSpec)

/-- ITS FALSE NEIGHBOUR: 'it returns false'. Refute it at one input. -/
def ringWithinWrong : ChangeSpec := { name := "ringWithin", fn := fun _ => fun
  | [d1, d2, d3] => { results := [.lit (.bool false)], args := [d1, d2, d3] }
  | _ => none }
def RingWithinWrongFalsely : Prop := ringWithinRow.holds Try.pinned (OpenSpec.ofChange ringWithinWrong)

/-- 'signalmanlaw01.RingRounds': WHATEVER THE INPUT: true; the input reads as it did. -/
def ringRoundsSpec : ChangeSpec := { name := "ringRounds", fn := fun _ => fun
  | [d1, d2] => { results := [.lit (.bool true)], args := [d1, d2] }
  | _ => none }
def ringRoundsRow : OpenClaim := { program := "ytailojidffehnaa", sum := "041a45825b3fd964b5d99405fb5d38f6b083345c4260f776ea895ceeca3fb3e2", func := "signalman/signalmanlaw01.RingRounds", spec := "ringRounds", unfollowed := true, recurses := true, apart := false }
def RingRoundsSaid : Prop := ringRoundsRow.holds Try.pinned (OpenSpec.ofChange ringRoundsSpec)

/-- ITS FALSE NEIGHBOUR: 'it returns false'. Refute it at one input. -/
def ringRoundsWrong : ChangeSpec := { name := "ringRounds", fn := fun _ => fun
  | [d1, d2] => { results := [.lit (.bool false)], args := [d1, d2] }
  | _ => none }
def RingRoundsWrongFalsely : Prop := ringRoundsRow.holds Try.pinned (OpenSpec.ofChange ringRoundsWrong)

/-- 'signalmanlaw08.BucketUnits': WHATEVER THE INPUT: true; the input reads as it did. -/
def bucketUnitsSpec : ChangeSpec := { name := "bucketUnits", fn := fun _ => fun
  | [d] => { results := [.lit (.bool true)], args := [d] }
  | _ => none }
def bucketUnitsRow : OpenClaim := { program := "ytailojidffehnaa", sum := "041a45825b3fd964b5d99405fb5d38f6b083345c4260f776ea895ceeca3fb3e2", func := "signalman/signalmanlaw08.BucketUnits", spec := "bucketUnits", apart := false }
def BucketUnitsSaid : Prop := bucketUnitsRow.holds Try.pinned (OpenSpec.ofChange bucketUnitsSpec)

/-- ITS FALSE NEIGHBOUR: 'it returns false'. Refute it at one input. -/
def bucketUnitsWrong : ChangeSpec := { name := "bucketUnits", fn := fun _ => fun
  | [d] => { results := [.lit (.bool false)], args := [d] }
  | _ => none }
def BucketUnitsWrongFalsely : Prop := bucketUnitsRow.holds Try.pinned (OpenSpec.ofChange bucketUnitsWrong)

/-- 'signalmanlaw08.BucketRuns': WHATEVER THE INPUT: true; the input reads as it did. -/
def bucketRunsSpec : ChangeSpec := { name := "bucketRuns", fn := fun _ => fun
  | [d] => { results := [.lit (.bool true)], args := [d] }
  | _ => none }
def bucketRunsRow : OpenClaim := { program := "ytailojidffehnaa", sum := "041a45825b3fd964b5d99405fb5d38f6b083345c4260f776ea895ceeca3fb3e2", func := "signalman/signalmanlaw08.BucketRuns", spec := "bucketRuns", apart := false }
def BucketRunsSaid : Prop := bucketRunsRow.holds Try.pinned (OpenSpec.ofChange bucketRunsSpec)

/-- ITS FALSE NEIGHBOUR: 'it returns false'. Refute it at one input. -/
def bucketRunsWrong : ChangeSpec := { name := "bucketRuns", fn := fun _ => fun
  | [d] => { results := [.lit (.bool false)], args := [d] }
  | _ => none }
def BucketRunsWrongFalsely : Prop := bucketRunsRow.holds Try.pinned (OpenSpec.ofChange bucketRunsWrong)

/-- 'signalmanlaw08.BucketRare': WHATEVER THE INPUT: true; the input reads as it did. -/
def bucketRareSpec : ChangeSpec := { name := "bucketRare", fn := fun _ => fun
  | [d] => { results := [.lit (.bool true)], args := [d] }
  | _ => none }
def bucketRareRow : OpenClaim := { program := "ytailojidffehnaa", sum := "041a45825b3fd964b5d99405fb5d38f6b083345c4260f776ea895ceeca3fb3e2", func := "signalman/signalmanlaw08.BucketRare", spec := "bucketRare", apart := false }
def BucketRareSaid : Prop := bucketRareRow.holds Try.pinned (OpenSpec.ofChange bucketRareSpec)

/-- ITS FALSE NEIGHBOUR: 'it returns false'. Refute it at one input. -/
def bucketRareWrong : ChangeSpec := { name := "bucketRare", fn := fun _ => fun
  | [d] => { results := [.lit (.bool false)], args := [d] }
  | _ => none }
def BucketRareWrongFalsely : Prop := bucketRareRow.holds Try.pinned (OpenSpec.ofChange bucketRareWrong)

/-- 'signalmanlaw08.BucketForgets': WHATEVER THE INPUT: true; the input reads as it did. -/
def bucketForgetsSpec : ChangeSpec := { name := "bucketForgets", fn := fun _ => fun
  | [d1, d2] => { results := [.lit (.bool true)], args := [d1, d2] }
  | _ => none }
def bucketForgetsRow : OpenClaim := { program := "ytailojidffehnaa", sum := "041a45825b3fd964b5d99405fb5d38f6b083345c4260f776ea895ceeca3fb3e2", func := "signalman/signalmanlaw08.BucketForgets", spec := "bucketForgets", apart := false }
def BucketForgetsSaid : Prop := bucketForgetsRow.holds Try.pinned (OpenSpec.ofChange bucketForgetsSpec)

/-- ITS FALSE NEIGHBOUR: 'it returns false'. Refute it at one input. -/
def bucketForgetsWrong : ChangeSpec := { name := "bucketForgets", fn := fun _ => fun
  | [d1, d2] => { results := [.lit (.bool false)], args := [d1, d2] }
  | _ => none }
def BucketForgetsWrongFalsely : Prop := bucketForgetsRow.holds Try.pinned (OpenSpec.ofChange bucketForgetsWrong)

/-- 'signalmanlaw08.BucketRight': WHATEVER THE INPUT: true; the input reads as it did. -/
def bucketRightSpec : ChangeSpec := { name := "bucketRight", fn := fun _ => fun
  | [d] => { results := [.lit (.bool true)], args := [d] }
  | _ => none }
def bucketRightRow : OpenClaim := { program := "ytailojidffehnaa", sum := "041a45825b3fd964b5d99405fb5d38f6b083345c4260f776ea895ceeca3fb3e2", func := "signalman/signalmanlaw08.BucketRight", spec := "bucketRight", apart := false }
def BucketRightSaid : Prop := bucketRightRow.holds Try.pinned (OpenSpec.ofChange bucketRightSpec)

/-- ITS FALSE NEIGHBOUR: 'it returns false'. Refute it at one input. -/
def bucketRightWrong : ChangeSpec := { name := "bucketRight", fn := fun _ => fun
  | [d] => { results := [.lit (.bool false)], args := [d] }
  | _ => none }
def BucketRightWrongFalsely : Prop := bucketRightRow.holds Try.pinned (OpenSpec.ofChange bucketRightWrong)

/-- 'signalmanlaw09.SetupChecks': WHATEVER THE INPUT: true; the input reads as it did. -/
def setupChecksSpec : ChangeSpec := { name := "setupChecks", fn := fun _ => fun
  | [d1, d2, d3, d4] => { results := [.lit (.bool true)], args := [d1, d2, d3, d4] }
  | _ => none }
def setupChecksRow : OpenClaim := { program := "ytailojidffehnaa", sum := "041a45825b3fd964b5d99405fb5d38f6b083345c4260f776ea895ceeca3fb3e2", func := "signalman/signalmanlaw09.SetupChecks", spec := "setupChecks", apart := false }
def SetupChecksSaid : Prop := setupChecksRow.holds Try.pinned (OpenSpec.ofChange setupChecksSpec)

/-- ITS FALSE NEIGHBOUR: 'it returns false'. Refute it at one input. -/
def setupChecksWrong : ChangeSpec := { name := "setupChecks", fn := fun _ => fun
  | [d1, d2, d3, d4] => { results := [.lit (.bool false)], args := [d1, d2, d3, d4] }
  | _ => none }
def SetupChecksWrongFalsely : Prop := setupChecksRow.holds Try.pinned (OpenSpec.ofChange setupChecksWrong)

/-- 'signalmanlaw09.SetupUsual': WHATEVER THE INPUT: true; the input reads as it did. -/
def setupUsualSpec : ChangeSpec := { name := "setupUsual", fn := fun _ => fun
  | [d] => { results := [.lit (.bool true)], args := [d] }
  | _ => none }
def setupUsualRow : OpenClaim := { program := "ytailojidffehnaa", sum := "041a45825b3fd964b5d99405fb5d38f6b083345c4260f776ea895ceeca3fb3e2", func := "signalman/signalmanlaw09.SetupUsual", spec := "setupUsual", apart := false }
def SetupUsualSaid : Prop := setupUsualRow.holds Try.pinned (OpenSpec.ofChange setupUsualSpec)

/-- ITS FALSE NEIGHBOUR: 'it returns false'. Refute it at one input. -/
def setupUsualWrong : ChangeSpec := { name := "setupUsual", fn := fun _ => fun
  | [d] => { results := [.lit (.bool false)], args := [d] }
  | _ => none }
def SetupUsualWrongFalsely : Prop := setupUsualRow.holds Try.pinned (OpenSpec.ofChange setupUsualWrong)

/-- 'signalmanlaw09.SetupUnits': WHATEVER THE INPUT: true; the input reads as it did. -/
def setupUnitsSpec : ChangeSpec := { name := "setupUnits", fn := fun _ => fun
  | [d1, d2] => { results := [.lit (.bool true)], args := [d1, d2] }
  | _ => none }
def setupUnitsRow : OpenClaim := { program := "ytailojidffehnaa", sum := "041a45825b3fd964b5d99405fb5d38f6b083345c4260f776ea895ceeca3fb3e2", func := "signalman/signalmanlaw09.SetupUnits", spec := "setupUnits", apart := false }
def SetupUnitsSaid : Prop := setupUnitsRow.holds Try.pinned (OpenSpec.ofChange setupUnitsSpec)

/-- ITS FALSE NEIGHBOUR: 'it returns false'. Refute it at one input. -/
def setupUnitsWrong : ChangeSpec := { name := "setupUnits", fn := fun _ => fun
  | [d1, d2] => { results := [.lit (.bool false)], args := [d1, d2] }
  | _ => none }
def SetupUnitsWrongFalsely : Prop := setupUnitsRow.holds Try.pinned (OpenSpec.ofChange setupUnitsWrong)

/- THE SECOND FORM. 'bulk': how many values and letters a reading holds, each counted each time it is reached (what is shared counts as often as it is met; a slice's spare places count too). A statement '..UptoSaid' is the law's where the arguments, and the package variables that the reading takes, are together of bulk at most 1048576: NARROWER than '..Said'. Prove '..Said' where nothing that the law and all that it calls make is longer than what came in: it says more and counts as full. Else prove '..UptoSaid'. A law counts once. -/
mutual
def uptoBulk {H : Type} : DataW H → Nat
  | .lit (.string bytes) => bytes.length + 1
  | .lit _ => 1
  | .nil => 1
  | .ptr d => uptoBulk d + 1
  | .slice elems spare => uptoBulkAll elems + uptoBulkAll spare + 1
  | .agg parts => uptoBulkAll parts + 1
  | .iface _ d => uptoBulk d + 1
  | .map entries => uptoBulkEntries entries + 1
  | .held _ => 1
def uptoBulkAll {H : Type} : List (DataW H) → Nat
  | [] => 0
  | d :: r => uptoBulk d + uptoBulkAll r
def uptoBulkEntries {H : Type} : List (Lit × DataW H) → Nat
  | [] => 0
  | x :: r => uptoBulkEntry x + uptoBulkEntries r
def uptoBulkEntry {H : Type} : Lit × DataW H → Nat
  | (.string bytes, d) => bytes.length + uptoBulk d + 1
  | (_, d) => uptoBulk d + 1
 end
def uptoSmall : (H : Type) → List (DataW H) → Bool := fun _ ds => decide (uptoBulkAll ds ≤ 1048576)
def OpenSpec.upto (s : _root_.Go.ChangeSpec) : _root_.Go.OpenSpec := { _root_.Go.OpenSpec.ofChange s with cond := some uptoSmall }

/-- 'signalmanlaw01.RingGaps', WHERE WHAT IT READS IS OF BULK AT MOST 1048576: true; the input reads as it did. -/
def ringGapsUptoRow : OpenClaim := { program := "ytailojidffehnaa", sum := "041a45825b3fd964b5d99405fb5d38f6b083345c4260f776ea895ceeca3fb3e2", func := "signalman/signalmanlaw01.RingGaps", spec := "ringGaps", apart := false, narrowed := true }
def RingGapsUptoSaid : Prop := ringGapsUptoRow.holds Try.pinned (OpenSpec.upto ringGapsSpec)

/-- 'signalmanlaw01.RingTurns', WHERE WHAT IT READS IS OF BULK AT MOST 1048576: true; the input reads as it did. -/
def ringTurnsUptoRow : OpenClaim := { program := "ytailojidffehnaa", sum := "041a45825b3fd964b5d99405fb5d38f6b083345c4260f776ea895ceeca3fb3e2", func := "signalman/signalmanlaw01.RingTurns", spec := "ringTurns", apart := false, narrowed := true }
def RingTurnsUptoSaid : Prop := ringTurnsUptoRow.holds Try.pinned (OpenSpec.upto ringTurnsSpec)

/-- 'signalmanlaw01.RingWithin', WHERE WHAT IT READS IS OF BULK AT MOST 1048576: true; the input reads as it did. -/
def ringWithinUptoRow : OpenClaim := { program := "ytailojidffehnaa", sum := "041a45825b3fd964b5d99405fb5d38f6b083345c4260f776ea895ceeca3fb3e2", func := "signalman/signalmanlaw01.RingWithin", spec := "ringWithin", unfollowed := true, recurses := true, apart := false, narrowed := true }
def RingWithinUptoSaid : Prop := ringWithinUptoRow.holds Try.pinned (OpenSpec.upto ringWithinSpec)

/-- 'signalmanlaw01.RingRounds', WHERE WHAT IT READS IS OF BULK AT MOST 1048576: true; the input reads as it did. -/
def ringRoundsUptoRow : OpenClaim := { program := "ytailojidffehnaa", sum := "041a45825b3fd964b5d99405fb5d38f6b083345c4260f776ea895ceeca3fb3e2", func := "signalman/signalmanlaw01.RingRounds", spec := "ringRounds", unfollowed := true, recurses := true, apart := false, narrowed := true }
def RingRoundsUptoSaid : Prop := ringRoundsUptoRow.holds Try.pinned (OpenSpec.upto ringRoundsSpec)

/-- 'signalmanlaw08.BucketUnits', WHERE WHAT IT READS IS OF BULK AT MOST 1048576: true; the input reads as it did. -/
def bucketUnitsUptoRow : OpenClaim := { program := "ytailojidffehnaa", sum := "041a45825b3fd964b5d99405fb5d38f6b083345c4260f776ea895ceeca3fb3e2", func := "signalman/signalmanlaw08.BucketUnits", spec := "bucketUnits", apart := false, narrowed := true }
def BucketUnitsUptoSaid : Prop := bucketUnitsUptoRow.holds Try.pinned (OpenSpec.upto bucketUnitsSpec)

/-- 'signalmanlaw08.BucketRuns', WHERE WHAT IT READS IS OF BULK AT MOST 1048576: true; the input reads as it did. -/
def bucketRunsUptoRow : OpenClaim := { program := "ytailojidffehnaa", sum := "041a45825b3fd964b5d99405fb5d38f6b083345c4260f776ea895ceeca3fb3e2", func := "signalman/signalmanlaw08.BucketRuns", spec := "bucketRuns", apart := false, narrowed := true }
def BucketRunsUptoSaid : Prop := bucketRunsUptoRow.holds Try.pinned (OpenSpec.upto bucketRunsSpec)

/-- 'signalmanlaw08.BucketRare', WHERE WHAT IT READS IS OF BULK AT MOST 1048576: true; the input reads as it did. -/
def bucketRareUptoRow : OpenClaim := { program := "ytailojidffehnaa", sum := "041a45825b3fd964b5d99405fb5d38f6b083345c4260f776ea895ceeca3fb3e2", func := "signalman/signalmanlaw08.BucketRare", spec := "bucketRare", apart := false, narrowed := true }
def BucketRareUptoSaid : Prop := bucketRareUptoRow.holds Try.pinned (OpenSpec.upto bucketRareSpec)

/-- 'signalmanlaw08.BucketForgets', WHERE WHAT IT READS IS OF BULK AT MOST 1048576: true; the input reads as it did. -/
def bucketForgetsUptoRow : OpenClaim := { program := "ytailojidffehnaa", sum := "041a45825b3fd964b5d99405fb5d38f6b083345c4260f776ea895ceeca3fb3e2", func := "signalman/signalmanlaw08.BucketForgets", spec := "bucketForgets", apart := false, narrowed := true }
def BucketForgetsUptoSaid : Prop := bucketForgetsUptoRow.holds Try.pinned (OpenSpec.upto bucketForgetsSpec)

/-- 'signalmanlaw08.BucketRight', WHERE WHAT IT READS IS OF BULK AT MOST 1048576: true; the input reads as it did. -/
def bucketRightUptoRow : OpenClaim := { program := "ytailojidffehnaa", sum := "041a45825b3fd964b5d99405fb5d38f6b083345c4260f776ea895ceeca3fb3e2", func := "signalman/signalmanlaw08.BucketRight", spec := "bucketRight", apart := false, narrowed := true }
def BucketRightUptoSaid : Prop := bucketRightUptoRow.holds Try.pinned (OpenSpec.upto bucketRightSpec)

/-- 'signalmanlaw09.SetupChecks', WHERE WHAT IT READS IS OF BULK AT MOST 1048576: true; the input reads as it did. -/
def setupChecksUptoRow : OpenClaim := { program := "ytailojidffehnaa", sum := "041a45825b3fd964b5d99405fb5d38f6b083345c4260f776ea895ceeca3fb3e2", func := "signalman/signalmanlaw09.SetupChecks", spec := "setupChecks", apart := false, narrowed := true }
def SetupChecksUptoSaid : Prop := setupChecksUptoRow.holds Try.pinned (OpenSpec.upto setupChecksSpec)

/-- 'signalmanlaw09.SetupUsual', WHERE WHAT IT READS IS OF BULK AT MOST 1048576: true; the input reads as it did. -/
def setupUsualUptoRow : OpenClaim := { program := "ytailojidffehnaa", sum := "041a45825b3fd964b5d99405fb5d38f6b083345c4260f776ea895ceeca3fb3e2", func := "signalman/signalmanlaw09.SetupUsual", spec := "setupUsual", apart := false, narrowed := true }
def SetupUsualUptoSaid : Prop := setupUsualUptoRow.holds Try.pinned (OpenSpec.upto setupUsualSpec)

/-- 'signalmanlaw09.SetupUnits', WHERE WHAT IT READS IS OF BULK AT MOST 1048576: true; the input reads as it did. -/
def setupUnitsUptoRow : OpenClaim := { program := "ytailojidffehnaa", sum := "041a45825b3fd964b5d99405fb5d38f6b083345c4260f776ea895ceeca3fb3e2", func := "signalman/signalmanlaw09.SetupUnits", spec := "setupUnits", apart := false, narrowed := true }
def SetupUnitsUptoSaid : Prop := setupUnitsUptoRow.holds Try.pinned (OpenSpec.upto setupUnitsSpec)

end Rows
end Go.Proofs.Ytailojidffehnaa
