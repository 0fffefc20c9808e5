/-
  No cell of these rows narrows 'for every input' (looked for: loops, veiled, ifaces, maps, wideKeys, modest, calm, conditions, laid).
  DERIVED. THE GIVEN ROWS OF THIS SEAT. 5 by the template 'for every input the law returns true; each argument reads behind the call as it read before'; 0 by the template 'total and deterministic' (their statements: YtpgalefpccgpfaaTotals.lean).
  GIVEN WITH THE SEED: the statements are not yours to turn. If you find one false, say at which input.
  Laid BY PROGRAM, IN A SANDBOX (cutbox-rows.mjs): the forced cells as the released guide's own fill.sh prints them over the translation 9d3c59461f803e5e… (all of the seat's roots in one cut). By AI agents, Wed Nov 11 2026. No macro, syntax, notation, axiom, sorry.
-/
import Derived.Test.YtpgalefpccgpfaaChecked
import GoSem.Claim
import GoSem.ClaimJoined
import GoSem.ClaimMapViews
import Derived.JoinedTies
import Derived.KernelRfl
namespace Go.Proofs.Ytpgalefpccgpfaa
/- THE CELL 'sum', in the pinned program and in every row, IS THE sha256 OF THE DUMP (.gsa) THAT YtpgalefpccgpfaaProg.lean LOADS. Nothing in Lean hashes anything: it is a label: what it is worth is what the hold of that sum in a sandbox is worth. -/
noncomputable def Try.pinned : Pinned := { name := "ytpgalefpccgpfaa", sum := "9d3c59461f803e5efd09cf7b925842a5b74385d7460d0b80af5afb126ee24b8c", checked := Try.checked }
namespace Rows
def none {H : Type} : Left H := { results := [], args := [] }

/-- 'signalmanlaw06.UnitRights': WHATEVER THE INPUT: true; the input reads as it did. -/
def unitRightsSpec : ChangeSpec := { name := "unitRights", fn := fun _ => fun
  | [d1, d2] => { results := [.lit (.bool true)], args := [d1, d2] }
  | _ => none }
def unitRightsRow : OpenClaim := { program := "ytpgalefpccgpfaa", sum := "9d3c59461f803e5efd09cf7b925842a5b74385d7460d0b80af5afb126ee24b8c", func := "signalman/signalmanlaw06.UnitRights", spec := "unitRights", apart := false }
def UnitRightsSaid : Prop := unitRightsRow.holds Try.pinned (OpenSpec.ofChange unitRightsSpec)

/-- ITS FALSE NEIGHBOUR: 'it returns false'. Refute it at one input. -/
def unitRightsWrong : ChangeSpec := { name := "unitRights", fn := fun _ => fun
  | [d1, d2] => { results := [.lit (.bool false)], args := [d1, d2] }
  | _ => none }
def UnitRightsWrongFalsely : Prop := unitRightsRow.holds Try.pinned (OpenSpec.ofChange unitRightsWrong)

/-- 'signalmanlaw06.UnitSame': WHATEVER THE INPUT: true; the input reads as it did. -/
def unitSameSpec : ChangeSpec := { name := "unitSame", fn := fun _ => fun
  | [d1, d2, d3, d4] => { results := [.lit (.bool true)], args := [d1, d2, d3, d4] }
  | _ => none }
def unitSameRow : OpenClaim := { program := "ytpgalefpccgpfaa", sum := "9d3c59461f803e5efd09cf7b925842a5b74385d7460d0b80af5afb126ee24b8c", func := "signalman/signalmanlaw06.UnitSame", spec := "unitSame", apart := false }
def UnitSameSaid : Prop := unitSameRow.holds Try.pinned (OpenSpec.ofChange unitSameSpec)

/-- ITS FALSE NEIGHBOUR: 'it returns false'. Refute it at one input. -/
def unitSameWrong : ChangeSpec := { name := "unitSame", fn := fun _ => fun
  | [d1, d2, d3, d4] => { results := [.lit (.bool false)], args := [d1, d2, d3, d4] }
  | _ => none }
def UnitSameWrongFalsely : Prop := unitSameRow.holds Try.pinned (OpenSpec.ofChange unitSameWrong)

/-- 'signalmanlaw06.UnitReads': WHATEVER THE INPUT: true; the input reads as it did. -/
def unitReadsSpec : ChangeSpec := { name := "unitReads", fn := fun _ => fun
  | [d1, d2] => { results := [.lit (.bool true)], args := [d1, d2] }
  | _ => none }
def unitReadsRow : OpenClaim := { program := "ytpgalefpccgpfaa", sum := "9d3c59461f803e5efd09cf7b925842a5b74385d7460d0b80af5afb126ee24b8c", func := "signalman/signalmanlaw06.UnitReads", spec := "unitReads", apart := false }
def UnitReadsSaid : Prop := unitReadsRow.holds Try.pinned (OpenSpec.ofChange unitReadsSpec)

/-- ITS FALSE NEIGHBOUR: 'it returns false'. Refute it at one input. -/
def unitReadsWrong : ChangeSpec := { name := "unitReads", fn := fun _ => fun
  | [d1, d2] => { results := [.lit (.bool false)], args := [d1, d2] }
  | _ => none }
def UnitReadsWrongFalsely : Prop := unitReadsRow.holds Try.pinned (OpenSpec.ofChange unitReadsWrong)

/-- 'signalmanlaw06.UnitKeeps': WHATEVER THE INPUT: true; the input reads as it did. -/
def unitKeepsSpec : ChangeSpec := { name := "unitKeeps", fn := fun _ => fun
  | [d] => { results := [.lit (.bool true)], args := [d] }
  | _ => none }
def unitKeepsRow : OpenClaim := { program := "ytpgalefpccgpfaa", sum := "9d3c59461f803e5efd09cf7b925842a5b74385d7460d0b80af5afb126ee24b8c", func := "signalman/signalmanlaw06.UnitKeeps", spec := "unitKeeps", apart := false }
def UnitKeepsSaid : Prop := unitKeepsRow.holds Try.pinned (OpenSpec.ofChange unitKeepsSpec)

/-- ITS FALSE NEIGHBOUR: 'it returns false'. Refute it at one input. -/
def unitKeepsWrong : ChangeSpec := { name := "unitKeeps", fn := fun _ => fun
  | [d] => { results := [.lit (.bool false)], args := [d] }
  | _ => none }
def UnitKeepsWrongFalsely : Prop := unitKeepsRow.holds Try.pinned (OpenSpec.ofChange unitKeepsWrong)

/-- 'signalmanlaw06.UnitOctets': WHATEVER THE INPUT: true; the input reads as it did. -/
def unitOctetsSpec : ChangeSpec := { name := "unitOctets", fn := fun _ => fun
  | [d] => { results := [.lit (.bool true)], args := [d] }
  | _ => none }
def unitOctetsRow : OpenClaim := { program := "ytpgalefpccgpfaa", sum := "9d3c59461f803e5efd09cf7b925842a5b74385d7460d0b80af5afb126ee24b8c", func := "signalman/signalmanlaw06.UnitOctets", spec := "unitOctets", apart := false }
def UnitOctetsSaid : Prop := unitOctetsRow.holds Try.pinned (OpenSpec.ofChange unitOctetsSpec)

/-- ITS FALSE NEIGHBOUR: 'it returns false'. Refute it at one input. -/
def unitOctetsWrong : ChangeSpec := { name := "unitOctets", fn := fun _ => fun
  | [d] => { results := [.lit (.bool false)], args := [d] }
  | _ => none }
def UnitOctetsWrongFalsely : Prop := unitOctetsRow.holds Try.pinned (OpenSpec.ofChange unitOctetsWrong)

/- THE SECOND FORM. 'bulk': how many values and letters a reading holds, each counted each time it is reached (what is shared counts as often as it is met; a slice's spare places count too). A statement '..UptoSaid' is the law's where the arguments, and the package variables that the reading takes, are together of bulk at most 1048576: NARROWER than '..Said'. Prove '..Said' where nothing that the law and all that it calls make is longer than what came in: it says more and counts as full. Else prove '..UptoSaid'. A law counts once. -/
mutual
def uptoBulk {H : Type} : DataW H → Nat
  | .lit (.string bytes) => bytes.length + 1
  | .lit _ => 1
  | .nil => 1
  | .ptr d => uptoBulk d + 1
  | .slice elems spare => uptoBulkAll elems + uptoBulkAll spare + 1
  | .agg parts => uptoBulkAll parts + 1
  | .iface _ d => uptoBulk d + 1
  | .map entries => uptoBulkEntries entries + 1
  | .held _ => 1
def uptoBulkAll {H : Type} : List (DataW H) → Nat
  | [] => 0
  | d :: r => uptoBulk d + uptoBulkAll r
def uptoBulkEntries {H : Type} : List (Lit × DataW H) → Nat
  | [] => 0
  | x :: r => uptoBulkEntry x + uptoBulkEntries r
def uptoBulkEntry {H : Type} : Lit × DataW H → Nat
  | (.string bytes, d) => bytes.length + uptoBulk d + 1
  | (_, d) => uptoBulk d + 1
 end
def uptoSmall : (H : Type) → List (DataW H) → Bool := fun _ ds => decide (uptoBulkAll ds ≤ 1048576)
def OpenSpec.upto (s : _root_.Go.ChangeSpec) : _root_.Go.OpenSpec := { _root_.Go.OpenSpec.ofChange s with cond := some uptoSmall }

/-- 'signalmanlaw06.UnitRights', WHERE WHAT IT READS IS OF BULK AT MOST 1048576: true; the input reads as it did. -/
def unitRightsUptoRow : OpenClaim := { program := "ytpgalefpccgpfaa", sum := "9d3c59461f803e5efd09cf7b925842a5b74385d7460d0b80af5afb126ee24b8c", func := "signalman/signalmanlaw06.UnitRights", spec := "unitRights", apart := false, narrowed := true }
def UnitRightsUptoSaid : Prop := unitRightsUptoRow.holds Try.pinned (OpenSpec.upto unitRightsSpec)

/-- 'signalmanlaw06.UnitSame', WHERE WHAT IT READS IS OF BULK AT MOST 1048576: true; the input reads as it did. -/
def unitSameUptoRow : OpenClaim := { program := "ytpgalefpccgpfaa", sum := "9d3c59461f803e5efd09cf7b925842a5b74385d7460d0b80af5afb126ee24b8c", func := "signalman/signalmanlaw06.UnitSame", spec := "unitSame", apart := false, narrowed := true }
def UnitSameUptoSaid : Prop := unitSameUptoRow.holds Try.pinned (OpenSpec.upto unitSameSpec)

/-- 'signalmanlaw06.UnitReads', WHERE WHAT IT READS IS OF BULK AT MOST 1048576: true; the input reads as it did. -/
def unitReadsUptoRow : OpenClaim := { program := "ytpgalefpccgpfaa", sum := "9d3c59461f803e5efd09cf7b925842a5b74385d7460d0b80af5afb126ee24b8c", func := "signalman/signalmanlaw06.UnitReads", spec := "unitReads", apart := false, narrowed := true }
def UnitReadsUptoSaid : Prop := unitReadsUptoRow.holds Try.pinned (OpenSpec.upto unitReadsSpec)

/-- 'signalmanlaw06.UnitKeeps', WHERE WHAT IT READS IS OF BULK AT MOST 1048576: true; the input reads as it did. -/
def unitKeepsUptoRow : OpenClaim := { program := "ytpgalefpccgpfaa", sum := "9d3c59461f803e5efd09cf7b925842a5b74385d7460d0b80af5afb126ee24b8c", func := "signalman/signalmanlaw06.UnitKeeps", spec := "unitKeeps", apart := false, narrowed := true }
def UnitKeepsUptoSaid : Prop := unitKeepsUptoRow.holds Try.pinned (OpenSpec.upto unitKeepsSpec)

/-- 'signalmanlaw06.UnitOctets', WHERE WHAT IT READS IS OF BULK AT MOST 1048576: true; the input reads as it did. -/
def unitOctetsUptoRow : OpenClaim := { program := "ytpgalefpccgpfaa", sum := "9d3c59461f803e5efd09cf7b925842a5b74385d7460d0b80af5afb126ee24b8c", func := "signalman/signalmanlaw06.UnitOctets", spec := "unitOctets", apart := false, narrowed := true }
def UnitOctetsUptoSaid : Prop := unitOctetsUptoRow.holds Try.pinned (OpenSpec.upto unitOctetsSpec)

end Rows
end Go.Proofs.Ytpgalefpccgpfaa
