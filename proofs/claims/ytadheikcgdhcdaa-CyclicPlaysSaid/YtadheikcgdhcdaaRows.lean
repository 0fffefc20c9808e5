/-
  No cell of these rows narrows 'for every input' (looked for: loops, veiled, ifaces, maps, wideKeys, modest, calm, conditions, laid).
  DERIVED. THE GIVEN ROWS OF THIS SEAT. 14 by the template 'for every input the law returns true; each argument reads behind the call as it read before'; 0 by the template 'total and deterministic' (their statements: YtadheikcgdhcdaaTotals.lean).
  GIVEN WITH THE SEED: the statements are not yours to turn. If you find one false, say at which input.
  Laid BY PROGRAM, IN A SANDBOX (cutbox-rows.mjs): the forced cells as the released guide's own fill.sh prints them over the translation 2c797c290ab75809… (all of the seat's roots in one cut). By AI agents, Wed Nov 11 2026. No macro, syntax, notation, axiom, sorry.
-/
import Derived.Test.YtadheikcgdhcdaaChecked
import GoSem.Claim
import GoSem.ClaimJoined
import GoSem.ClaimMapViews
import Derived.JoinedTies
import Derived.KernelRfl
namespace Go.Proofs.Ytadheikcgdhcdaa
/- THE CELL 'sum', in the pinned program and in every row, IS THE sha256 OF THE DUMP (.gsa) THAT YtadheikcgdhcdaaProg.lean LOADS. Nothing in Lean hashes anything: it is a label: what it is worth is what the hold of that sum in a sandbox is worth. -/
noncomputable def Try.pinned : Pinned := { name := "ytadheikcgdhcdaa", sum := "2c797c290ab75809388a86b863110bb43b06ce9b5316ada71d0d8d231d1264b2", checked := Try.checked }
namespace Rows
def none {H : Type} : Left H := { results := [], args := [] }

/-- 'signalmanlaw13.WayMost': WHATEVER THE INPUT: true; the input reads as it did. -/
def wayMostSpec : ChangeSpec := { name := "wayMost", fn := fun _ => fun
  | [d] => { results := [.lit (.bool true)], args := [d] }
  | _ => none }
def wayMostRow : OpenClaim := { program := "ytadheikcgdhcdaa", sum := "2c797c290ab75809388a86b863110bb43b06ce9b5316ada71d0d8d231d1264b2", func := "signalman/signalmanlaw13.WayMost", spec := "wayMost", apart := false }
def WayMostSaid : Prop := wayMostRow.holds Try.pinned (OpenSpec.ofChange wayMostSpec)

/-- ITS FALSE NEIGHBOUR: 'it returns false'. Refute it at one input. -/
def wayMostWrong : ChangeSpec := { name := "wayMost", fn := fun _ => fun
  | [d] => { results := [.lit (.bool false)], args := [d] }
  | _ => none }
def WayMostWrongFalsely : Prop := wayMostRow.holds Try.pinned (OpenSpec.ofChange wayMostWrong)

/-- 'signalmanlaw10.HoldWindow': WHATEVER THE INPUT: true; the input reads as it did. -/
def holdWindowSpec : ChangeSpec := { name := "holdWindow", fn := fun _ => fun
  | [d] => { results := [.lit (.bool true)], args := [d] }
  | _ => none }
def holdWindowRow : OpenClaim := { program := "ytadheikcgdhcdaa", sum := "2c797c290ab75809388a86b863110bb43b06ce9b5316ada71d0d8d231d1264b2", func := "signalman/signalmanlaw10.HoldWindow", spec := "holdWindow", apart := false }
def HoldWindowSaid : Prop := holdWindowRow.holds Try.pinned (OpenSpec.ofChange holdWindowSpec)

/-- ITS FALSE NEIGHBOUR: 'it returns false'. Refute it at one input. -/
def holdWindowWrong : ChangeSpec := { name := "holdWindow", fn := fun _ => fun
  | [d] => { results := [.lit (.bool false)], args := [d] }
  | _ => none }
def HoldWindowWrongFalsely : Prop := holdWindowRow.holds Try.pinned (OpenSpec.ofChange holdWindowWrong)

/-- 'signalmanlaw10.HoldTurns': WHATEVER THE INPUT: true; the input reads as it did. -/
def holdTurnsSpec : ChangeSpec := { name := "holdTurns", fn := fun _ => fun
  | [d1, d2] => { results := [.lit (.bool true)], args := [d1, d2] }
  | _ => none }
def holdTurnsRow : OpenClaim := { program := "ytadheikcgdhcdaa", sum := "2c797c290ab75809388a86b863110bb43b06ce9b5316ada71d0d8d231d1264b2", func := "signalman/signalmanlaw10.HoldTurns", spec := "holdTurns", apart := false }
def HoldTurnsSaid : Prop := holdTurnsRow.holds Try.pinned (OpenSpec.ofChange holdTurnsSpec)

/-- ITS FALSE NEIGHBOUR: 'it returns false'. Refute it at one input. -/
def holdTurnsWrong : ChangeSpec := { name := "holdTurns", fn := fun _ => fun
  | [d1, d2] => { results := [.lit (.bool false)], args := [d1, d2] }
  | _ => none }
def HoldTurnsWrongFalsely : Prop := holdTurnsRow.holds Try.pinned (OpenSpec.ofChange holdTurnsWrong)

/-- 'signalmanlaw11.BasicOdd': WHATEVER THE INPUT: true; the input reads as it did. -/
def basicOddSpec : ChangeSpec := { name := "basicOdd", fn := fun _ => fun
  | [d] => { results := [.lit (.bool true)], args := [d] }
  | _ => none }
def basicOddRow : OpenClaim := { program := "ytadheikcgdhcdaa", sum := "2c797c290ab75809388a86b863110bb43b06ce9b5316ada71d0d8d231d1264b2", func := "signalman/signalmanlaw11.BasicOdd", spec := "basicOdd", apart := false }
def BasicOddSaid : Prop := basicOddRow.holds Try.pinned (OpenSpec.ofChange basicOddSpec)

/-- ITS FALSE NEIGHBOUR: 'it returns false'. Refute it at one input. -/
def basicOddWrong : ChangeSpec := { name := "basicOdd", fn := fun _ => fun
  | [d] => { results := [.lit (.bool false)], args := [d] }
  | _ => none }
def BasicOddWrongFalsely : Prop := basicOddRow.holds Try.pinned (OpenSpec.ofChange basicOddWrong)

/-- 'signalmanlaw10.HoldPlays': WHATEVER THE INPUT: true; the input reads as it did. -/
def holdPlaysSpec : ChangeSpec := { name := "holdPlays", fn := fun _ => fun
  | [d1, d2, d3] => { results := [.lit (.bool true)], args := [d1, d2, d3] }
  | _ => none }
def holdPlaysRow : OpenClaim := { program := "ytadheikcgdhcdaa", sum := "2c797c290ab75809388a86b863110bb43b06ce9b5316ada71d0d8d231d1264b2", func := "signalman/signalmanlaw10.HoldPlays", spec := "holdPlays", apart := false }
def HoldPlaysSaid : Prop := holdPlaysRow.holds Try.pinned (OpenSpec.ofChange holdPlaysSpec)

/-- ITS FALSE NEIGHBOUR: 'it returns false'. Refute it at one input. -/
def holdPlaysWrong : ChangeSpec := { name := "holdPlays", fn := fun _ => fun
  | [d1, d2, d3] => { results := [.lit (.bool false)], args := [d1, d2, d3] }
  | _ => none }
def HoldPlaysWrongFalsely : Prop := holdPlaysRow.holds Try.pinned (OpenSpec.ofChange holdPlaysWrong)

/-- 'signalmanlaw11.BasicAsks': WHATEVER THE INPUT: true; the input reads as it did. -/
def basicAsksSpec : ChangeSpec := { name := "basicAsks", fn := fun _ => fun
  | [d1, d2] => { results := [.lit (.bool true)], args := [d1, d2] }
  | _ => none }
def basicAsksRow : OpenClaim := { program := "ytadheikcgdhcdaa", sum := "2c797c290ab75809388a86b863110bb43b06ce9b5316ada71d0d8d231d1264b2", func := "signalman/signalmanlaw11.BasicAsks", spec := "basicAsks", apart := false }
def BasicAsksSaid : Prop := basicAsksRow.holds Try.pinned (OpenSpec.ofChange basicAsksSpec)

/-- ITS FALSE NEIGHBOUR: 'it returns false'. Refute it at one input. -/
def basicAsksWrong : ChangeSpec := { name := "basicAsks", fn := fun _ => fun
  | [d1, d2] => { results := [.lit (.bool false)], args := [d1, d2] }
  | _ => none }
def BasicAsksWrongFalsely : Prop := basicAsksRow.holds Try.pinned (OpenSpec.ofChange basicAsksWrong)

/-- 'signalmanlaw11.BasicBack': WHATEVER THE INPUT: true; the input reads as it did. -/
def basicBackSpec : ChangeSpec := { name := "basicBack", fn := fun _ => fun
  | [d1, d2] => { results := [.lit (.bool true)], args := [d1, d2] }
  | _ => none }
def basicBackRow : OpenClaim := { program := "ytadheikcgdhcdaa", sum := "2c797c290ab75809388a86b863110bb43b06ce9b5316ada71d0d8d231d1264b2", func := "signalman/signalmanlaw11.BasicBack", spec := "basicBack", apart := false }
def BasicBackSaid : Prop := basicBackRow.holds Try.pinned (OpenSpec.ofChange basicBackSpec)

/-- ITS FALSE NEIGHBOUR: 'it returns false'. Refute it at one input. -/
def basicBackWrong : ChangeSpec := { name := "basicBack", fn := fun _ => fun
  | [d1, d2] => { results := [.lit (.bool false)], args := [d1, d2] }
  | _ => none }
def BasicBackWrongFalsely : Prop := basicBackRow.holds Try.pinned (OpenSpec.ofChange basicBackWrong)

/-- 'signalmanlaw12.CyclicForced': WHATEVER THE INPUT: true; the input reads as it did. -/
def cyclicForcedSpec : ChangeSpec := { name := "cyclicForced", fn := fun _ => fun
  | [d1, d2] => { results := [.lit (.bool true)], args := [d1, d2] }
  | _ => none }
def cyclicForcedRow : OpenClaim := { program := "ytadheikcgdhcdaa", sum := "2c797c290ab75809388a86b863110bb43b06ce9b5316ada71d0d8d231d1264b2", func := "signalman/signalmanlaw12.CyclicForced", spec := "cyclicForced", apart := false }
def CyclicForcedSaid : Prop := cyclicForcedRow.holds Try.pinned (OpenSpec.ofChange cyclicForcedSpec)

/-- ITS FALSE NEIGHBOUR: 'it returns false'. Refute it at one input. -/
def cyclicForcedWrong : ChangeSpec := { name := "cyclicForced", fn := fun _ => fun
  | [d1, d2] => { results := [.lit (.bool false)], args := [d1, d2] }
  | _ => none }
def CyclicForcedWrongFalsely : Prop := cyclicForcedRow.holds Try.pinned (OpenSpec.ofChange cyclicForcedWrong)

/-- 'signalmanlaw12.CyclicLoses': WHATEVER THE INPUT: true; the input reads as it did. -/
def cyclicLosesSpec : ChangeSpec := { name := "cyclicLoses", fn := fun _ => fun
  | [d1, d2, d3, d4, d5] => { results := [.lit (.bool true)], args := [d1, d2, d3, d4, d5] }
  | _ => none }
def cyclicLosesRow : OpenClaim := { program := "ytadheikcgdhcdaa", sum := "2c797c290ab75809388a86b863110bb43b06ce9b5316ada71d0d8d231d1264b2", func := "signalman/signalmanlaw12.CyclicLoses", spec := "cyclicLoses", apart := false }
def CyclicLosesSaid : Prop := cyclicLosesRow.holds Try.pinned (OpenSpec.ofChange cyclicLosesSpec)

/-- ITS FALSE NEIGHBOUR: 'it returns false'. Refute it at one input. -/
def cyclicLosesWrong : ChangeSpec := { name := "cyclicLoses", fn := fun _ => fun
  | [d1, d2, d3, d4, d5] => { results := [.lit (.bool false)], args := [d1, d2, d3, d4, d5] }
  | _ => none }
def CyclicLosesWrongFalsely : Prop := cyclicLosesRow.holds Try.pinned (OpenSpec.ofChange cyclicLosesWrong)

/-- 'signalmanlaw11.BasicLoses': WHATEVER THE INPUT: true; the input reads as it did. -/
def basicLosesSpec : ChangeSpec := { name := "basicLoses", fn := fun _ => fun
  | [d1, d2, d3] => { results := [.lit (.bool true)], args := [d1, d2, d3] }
  | _ => none }
def basicLosesRow : OpenClaim := { program := "ytadheikcgdhcdaa", sum := "2c797c290ab75809388a86b863110bb43b06ce9b5316ada71d0d8d231d1264b2", func := "signalman/signalmanlaw11.BasicLoses", spec := "basicLoses", apart := false }
def BasicLosesSaid : Prop := basicLosesRow.holds Try.pinned (OpenSpec.ofChange basicLosesSpec)

/-- ITS FALSE NEIGHBOUR: 'it returns false'. Refute it at one input. -/
def basicLosesWrong : ChangeSpec := { name := "basicLoses", fn := fun _ => fun
  | [d1, d2, d3] => { results := [.lit (.bool false)], args := [d1, d2, d3] }
  | _ => none }
def BasicLosesWrongFalsely : Prop := basicLosesRow.holds Try.pinned (OpenSpec.ofChange basicLosesWrong)

/-- 'signalmanlaw12.CyclicPlays': WHATEVER THE INPUT: true; the input reads as it did. -/
def cyclicPlaysSpec : ChangeSpec := { name := "cyclicPlays", fn := fun _ => fun
  | [d1, d2, d3, d4] => { results := [.lit (.bool true)], args := [d1, d2, d3, d4] }
  | _ => none }
def cyclicPlaysRow : OpenClaim := { program := "ytadheikcgdhcdaa", sum := "2c797c290ab75809388a86b863110bb43b06ce9b5316ada71d0d8d231d1264b2", func := "signalman/signalmanlaw12.CyclicPlays", spec := "cyclicPlays", apart := false }
def CyclicPlaysSaid : Prop := cyclicPlaysRow.holds Try.pinned (OpenSpec.ofChange cyclicPlaysSpec)

/-- ITS FALSE NEIGHBOUR: 'it returns false'. Refute it at one input. -/
def cyclicPlaysWrong : ChangeSpec := { name := "cyclicPlays", fn := fun _ => fun
  | [d1, d2, d3, d4] => { results := [.lit (.bool false)], args := [d1, d2, d3, d4] }
  | _ => none }
def CyclicPlaysWrongFalsely : Prop := cyclicPlaysRow.holds Try.pinned (OpenSpec.ofChange cyclicPlaysWrong)

/-- 'signalmanlaw13.WayKinds': WHATEVER THE INPUT: true; the input reads as it did. -/
def wayKindsSpec : ChangeSpec := { name := "wayKinds", fn := fun _ => fun
  | [d1, d2, d3] => { results := [.lit (.bool true)], args := [d1, d2, d3] }
  | _ => none }
def wayKindsRow : OpenClaim := { program := "ytadheikcgdhcdaa", sum := "2c797c290ab75809388a86b863110bb43b06ce9b5316ada71d0d8d231d1264b2", func := "signalman/signalmanlaw13.WayKinds", spec := "wayKinds", unfollowed := true, recurses := true, apart := false }
def WayKindsSaid : Prop := wayKindsRow.holds Try.pinned (OpenSpec.ofChange wayKindsSpec)

/-- ITS FALSE NEIGHBOUR: 'it returns false'. Refute it at one input. -/
def wayKindsWrong : ChangeSpec := { name := "wayKinds", fn := fun _ => fun
  | [d1, d2, d3] => { results := [.lit (.bool false)], args := [d1, d2, d3] }
  | _ => none }
def WayKindsWrongFalsely : Prop := wayKindsRow.holds Try.pinned (OpenSpec.ofChange wayKindsWrong)

/-- 'signalmanlaw13.WayHolds': WHATEVER THE INPUT: true; the input reads as it did. -/
def wayHoldsSpec : ChangeSpec := { name := "wayHolds", fn := fun _ => fun
  | [d1, d2] => { results := [.lit (.bool true)], args := [d1, d2] }
  | _ => none }
def wayHoldsRow : OpenClaim := { program := "ytadheikcgdhcdaa", sum := "2c797c290ab75809388a86b863110bb43b06ce9b5316ada71d0d8d231d1264b2", func := "signalman/signalmanlaw13.WayHolds", spec := "wayHolds", unfollowed := true, recurses := true, apart := false }
def WayHoldsSaid : Prop := wayHoldsRow.holds Try.pinned (OpenSpec.ofChange wayHoldsSpec)

/-- ITS FALSE NEIGHBOUR: 'it returns false'. Refute it at one input. -/
def wayHoldsWrong : ChangeSpec := { name := "wayHolds", fn := fun _ => fun
  | [d1, d2] => { results := [.lit (.bool false)], args := [d1, d2] }
  | _ => none }
def WayHoldsWrongFalsely : Prop := wayHoldsRow.holds Try.pinned (OpenSpec.ofChange wayHoldsWrong)

/-- 'signalmanlaw13.WayLoses': WHATEVER THE INPUT: true; the input reads as it did. -/
def wayLosesSpec : ChangeSpec := { name := "wayLoses", fn := fun _ => fun
  | [d1, d2, d3] => { results := [.lit (.bool true)], args := [d1, d2, d3] }
  | _ => none }
def wayLosesRow : OpenClaim := { program := "ytadheikcgdhcdaa", sum := "2c797c290ab75809388a86b863110bb43b06ce9b5316ada71d0d8d231d1264b2", func := "signalman/signalmanlaw13.WayLoses", spec := "wayLoses", unfollowed := true, recurses := true, apart := false }
def WayLosesSaid : Prop := wayLosesRow.holds Try.pinned (OpenSpec.ofChange wayLosesSpec)

/-- ITS FALSE NEIGHBOUR: 'it returns false'. Refute it at one input. -/
def wayLosesWrong : ChangeSpec := { name := "wayLoses", fn := fun _ => fun
  | [d1, d2, d3] => { results := [.lit (.bool false)], args := [d1, d2, d3] }
  | _ => none }
def WayLosesWrongFalsely : Prop := wayLosesRow.holds Try.pinned (OpenSpec.ofChange wayLosesWrong)

/- THE SECOND FORM. 'bulk': how many values and letters a reading holds, each counted each time it is reached (what is shared counts as often as it is met; a slice's spare places count too). A statement '..UptoSaid' is the law's where the arguments, and the package variables that the reading takes, are together of bulk at most 1048576: NARROWER than '..Said'. Prove '..Said' where nothing that the law and all that it calls make is longer than what came in: it says more and counts as full. Else prove '..UptoSaid'. A law counts once. -/
mutual
def uptoBulk {H : Type} : DataW H → Nat
  | .lit (.string bytes) => bytes.length + 1
  | .lit _ => 1
  | .nil => 1
  | .ptr d => uptoBulk d + 1
  | .slice elems spare => uptoBulkAll elems + uptoBulkAll spare + 1
  | .agg parts => uptoBulkAll parts + 1
  | .iface _ d => uptoBulk d + 1
  | .map entries => uptoBulkEntries entries + 1
  | .held _ => 1
def uptoBulkAll {H : Type} : List (DataW H) → Nat
  | [] => 0
  | d :: r => uptoBulk d + uptoBulkAll r
def uptoBulkEntries {H : Type} : List (Lit × DataW H) → Nat
  | [] => 0
  | x :: r => uptoBulkEntry x + uptoBulkEntries r
def uptoBulkEntry {H : Type} : Lit × DataW H → Nat
  | (.string bytes, d) => bytes.length + uptoBulk d + 1
  | (_, d) => uptoBulk d + 1
 end
def uptoSmall : (H : Type) → List (DataW H) → Bool := fun _ ds => decide (uptoBulkAll ds ≤ 1048576)
def OpenSpec.upto (s : _root_.Go.ChangeSpec) : _root_.Go.OpenSpec := { _root_.Go.OpenSpec.ofChange s with cond := some uptoSmall }

/-- 'signalmanlaw13.WayMost', WHERE WHAT IT READS IS OF BULK AT MOST 1048576: true; the input reads as it did. -/
def wayMostUptoRow : OpenClaim := { program := "ytadheikcgdhcdaa", sum := "2c797c290ab75809388a86b863110bb43b06ce9b5316ada71d0d8d231d1264b2", func := "signalman/signalmanlaw13.WayMost", spec := "wayMost", apart := false, narrowed := true }
def WayMostUptoSaid : Prop := wayMostUptoRow.holds Try.pinned (OpenSpec.upto wayMostSpec)

/-- 'signalmanlaw10.HoldWindow', WHERE WHAT IT READS IS OF BULK AT MOST 1048576: true; the input reads as it did. -/
def holdWindowUptoRow : OpenClaim := { program := "ytadheikcgdhcdaa", sum := "2c797c290ab75809388a86b863110bb43b06ce9b5316ada71d0d8d231d1264b2", func := "signalman/signalmanlaw10.HoldWindow", spec := "holdWindow", apart := false, narrowed := true }
def HoldWindowUptoSaid : Prop := holdWindowUptoRow.holds Try.pinned (OpenSpec.upto holdWindowSpec)

/-- 'signalmanlaw10.HoldTurns', WHERE WHAT IT READS IS OF BULK AT MOST 1048576: true; the input reads as it did. -/
def holdTurnsUptoRow : OpenClaim := { program := "ytadheikcgdhcdaa", sum := "2c797c290ab75809388a86b863110bb43b06ce9b5316ada71d0d8d231d1264b2", func := "signalman/signalmanlaw10.HoldTurns", spec := "holdTurns", apart := false, narrowed := true }
def HoldTurnsUptoSaid : Prop := holdTurnsUptoRow.holds Try.pinned (OpenSpec.upto holdTurnsSpec)

/-- 'signalmanlaw11.BasicOdd', WHERE WHAT IT READS IS OF BULK AT MOST 1048576: true; the input reads as it did. -/
def basicOddUptoRow : OpenClaim := { program := "ytadheikcgdhcdaa", sum := "2c797c290ab75809388a86b863110bb43b06ce9b5316ada71d0d8d231d1264b2", func := "signalman/signalmanlaw11.BasicOdd", spec := "basicOdd", apart := false, narrowed := true }
def BasicOddUptoSaid : Prop := basicOddUptoRow.holds Try.pinned (OpenSpec.upto basicOddSpec)

/-- 'signalmanlaw10.HoldPlays', WHERE WHAT IT READS IS OF BULK AT MOST 1048576: true; the input reads as it did. -/
def holdPlaysUptoRow : OpenClaim := { program := "ytadheikcgdhcdaa", sum := "2c797c290ab75809388a86b863110bb43b06ce9b5316ada71d0d8d231d1264b2", func := "signalman/signalmanlaw10.HoldPlays", spec := "holdPlays", apart := false, narrowed := true }
def HoldPlaysUptoSaid : Prop := holdPlaysUptoRow.holds Try.pinned (OpenSpec.upto holdPlaysSpec)

/-- 'signalmanlaw11.BasicAsks', WHERE WHAT IT READS IS OF BULK AT MOST 1048576: true; the input reads as it did. -/
def basicAsksUptoRow : OpenClaim := { program := "ytadheikcgdhcdaa", sum := "2c797c290ab75809388a86b863110bb43b06ce9b5316ada71d0d8d231d1264b2", func := "signalman/signalmanlaw11.BasicAsks", spec := "basicAsks", apart := false, narrowed := true }
def BasicAsksUptoSaid : Prop := basicAsksUptoRow.holds Try.pinned (OpenSpec.upto basicAsksSpec)

/-- 'signalmanlaw11.BasicBack', WHERE WHAT IT READS IS OF BULK AT MOST 1048576: true; the input reads as it did. -/
def basicBackUptoRow : OpenClaim := { program := "ytadheikcgdhcdaa", sum := "2c797c290ab75809388a86b863110bb43b06ce9b5316ada71d0d8d231d1264b2", func := "signalman/signalmanlaw11.BasicBack", spec := "basicBack", apart := false, narrowed := true }
def BasicBackUptoSaid : Prop := basicBackUptoRow.holds Try.pinned (OpenSpec.upto basicBackSpec)

/-- 'signalmanlaw12.CyclicForced', WHERE WHAT IT READS IS OF BULK AT MOST 1048576: true; the input reads as it did. -/
def cyclicForcedUptoRow : OpenClaim := { program := "ytadheikcgdhcdaa", sum := "2c797c290ab75809388a86b863110bb43b06ce9b5316ada71d0d8d231d1264b2", func := "signalman/signalmanlaw12.CyclicForced", spec := "cyclicForced", apart := false, narrowed := true }
def CyclicForcedUptoSaid : Prop := cyclicForcedUptoRow.holds Try.pinned (OpenSpec.upto cyclicForcedSpec)

/-- 'signalmanlaw12.CyclicLoses', WHERE WHAT IT READS IS OF BULK AT MOST 1048576: true; the input reads as it did. -/
def cyclicLosesUptoRow : OpenClaim := { program := "ytadheikcgdhcdaa", sum := "2c797c290ab75809388a86b863110bb43b06ce9b5316ada71d0d8d231d1264b2", func := "signalman/signalmanlaw12.CyclicLoses", spec := "cyclicLoses", apart := false, narrowed := true }
def CyclicLosesUptoSaid : Prop := cyclicLosesUptoRow.holds Try.pinned (OpenSpec.upto cyclicLosesSpec)

/-- 'signalmanlaw11.BasicLoses', WHERE WHAT IT READS IS OF BULK AT MOST 1048576: true; the input reads as it did. -/
def basicLosesUptoRow : OpenClaim := { program := "ytadheikcgdhcdaa", sum := "2c797c290ab75809388a86b863110bb43b06ce9b5316ada71d0d8d231d1264b2", func := "signalman/signalmanlaw11.BasicLoses", spec := "basicLoses", apart := false, narrowed := true }
def BasicLosesUptoSaid : Prop := basicLosesUptoRow.holds Try.pinned (OpenSpec.upto basicLosesSpec)

/-- 'signalmanlaw12.CyclicPlays', WHERE WHAT IT READS IS OF BULK AT MOST 1048576: true; the input reads as it did. -/
def cyclicPlaysUptoRow : OpenClaim := { program := "ytadheikcgdhcdaa", sum := "2c797c290ab75809388a86b863110bb43b06ce9b5316ada71d0d8d231d1264b2", func := "signalman/signalmanlaw12.CyclicPlays", spec := "cyclicPlays", apart := false, narrowed := true }
def CyclicPlaysUptoSaid : Prop := cyclicPlaysUptoRow.holds Try.pinned (OpenSpec.upto cyclicPlaysSpec)

/-- 'signalmanlaw13.WayKinds', WHERE WHAT IT READS IS OF BULK AT MOST 1048576: true; the input reads as it did. -/
def wayKindsUptoRow : OpenClaim := { program := "ytadheikcgdhcdaa", sum := "2c797c290ab75809388a86b863110bb43b06ce9b5316ada71d0d8d231d1264b2", func := "signalman/signalmanlaw13.WayKinds", spec := "wayKinds", unfollowed := true, recurses := true, apart := false, narrowed := true }
def WayKindsUptoSaid : Prop := wayKindsUptoRow.holds Try.pinned (OpenSpec.upto wayKindsSpec)

/-- 'signalmanlaw13.WayHolds', WHERE WHAT IT READS IS OF BULK AT MOST 1048576: true; the input reads as it did. -/
def wayHoldsUptoRow : OpenClaim := { program := "ytadheikcgdhcdaa", sum := "2c797c290ab75809388a86b863110bb43b06ce9b5316ada71d0d8d231d1264b2", func := "signalman/signalmanlaw13.WayHolds", spec := "wayHolds", unfollowed := true, recurses := true, apart := false, narrowed := true }
def WayHoldsUptoSaid : Prop := wayHoldsUptoRow.holds Try.pinned (OpenSpec.upto wayHoldsSpec)

/-- 'signalmanlaw13.WayLoses', WHERE WHAT IT READS IS OF BULK AT MOST 1048576: true; the input reads as it did. -/
def wayLosesUptoRow : OpenClaim := { program := "ytadheikcgdhcdaa", sum := "2c797c290ab75809388a86b863110bb43b06ce9b5316ada71d0d8d231d1264b2", func := "signalman/signalmanlaw13.WayLoses", spec := "wayLoses", unfollowed := true, recurses := true, apart := false, narrowed := true }
def WayLosesUptoSaid : Prop := wayLosesUptoRow.holds Try.pinned (OpenSpec.upto wayLosesSpec)

end Rows
end Go.Proofs.Ytadheikcgdhcdaa
