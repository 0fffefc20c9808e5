/-
  Whatever is put, sent and answered, no more waits than may: both ways, and what is too long.
-/
import Derived.Test.YtadheikcgdhcdaaWayHB
import Derived.Test.YtadheikcgdhcdaaWayHC
namespace Go.Proofs.Ytadheikcgdhcdaa
open Go.RowKit
set_option linter.unusedVariables false
set_option linter.unusedSimpArgs false

theorem wayholds_long (c : Bool) (a : Option Addr) (len cap : Nat) (w : World) (h : 200 < len) (hm : len ≤ 9223372036854775807) : Calls Try.prog 15 #[.bool c, .slice a len cap] w fun e w' => e = .returned (.bool true) ∧ Below w.heap.size w w' := by
  have hd : (200 : Int) < (len : Int) := by omega
  go_enter Try.func15, Try.ntmps15
  go_wp2_with fail
  refine (awake13_any _).mono ?_
  rintro e w0 ⟨rfl, hB0⟩
  go_wp2_with fail
  refine (awake13_any _).mono ?_
  rintro e w1 ⟨rfl, hB1⟩
  go_wp2
  go_ret
  exact ⟨rfl, bthen hB0 hB1⟩
theorem wayholds_row (c : Bool) (a : Option Addr) (len cap : Nat) (zs : List Int) (w : World) (hz : Came w .u8 a len zs) (hm : len ≤ maxLen) :
    Calls Try.prog 15 #[.bool c, .slice a len cap] w fun e w' => e = .returned (.bool true) ∧ Below w.heap.size w w' := by
  by_cases h : len ≤ 200
  · cases c
    · exact wayholds_b a len cap zs w hz h
    · exact wayholds_c a len cap zs w hz h
  · exact wayholds_long c a len cap w (by omega) (by unfold maxLen at hm; omega)
end Go.Proofs.Ytadheikcgdhcdaa
