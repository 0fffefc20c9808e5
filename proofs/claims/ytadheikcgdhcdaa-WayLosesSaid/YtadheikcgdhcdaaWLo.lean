/-
  Each once, in order, whatever of the first is lost: the walk.
-/
import Derived.Test.YtadheikcgdhcdaaWLoB
import Derived.Test.YtadheikcgdhcdaaWLoC
namespace Go.Proofs.Ytadheikcgdhcdaa
open Go.RowKit
set_option linter.unusedVariables false

set_option maxRecDepth 100000 in
theorem wayloses_long (c : Bool) (n : Int) (a : Option Addr) (len cap : Nat) (w : World) (h : 60 < len) (hm : len ≤ 9223372036854775807) : Calls Try.prog 16 #[.bool c, .int .u8 n, .slice a len cap] w fun e w' => e = .returned (.bool true) ∧ Below w.heap.size w w' := by
  have hd : (60 : Int) < (len : Int) := by omega
  go_enter Try.func16, Try.ntmps16
  go_wp2_with fail
  refine (awake13_any _).mono ?_
  rintro e w0 ⟨rfl, hB0⟩
  go_wp2_with fail
  refine (awake13_any _).mono ?_
  rintro e w1 ⟨rfl, hB1⟩
  go_wp2
  go_ret
  exact ⟨rfl, bthen hB0 hB1⟩
theorem wayloses_row (c : Bool) (n : Int) (a : Option Addr) (len cap : Nat) (zs : List Int) (w : World) (hn : 0 ≤ n ∧ n ≤ 255) (hz : Came w .u8 a len zs) (hm : len ≤ maxLen) :
    Calls Try.prog 16 #[.bool c, .int .u8 n, .slice a len cap] w fun e w' => e = .returned (.bool true) ∧ Below w.heap.size w w' := by
  by_cases h : len ≤ 60
  · cases c
    · exact wayloses_b n a len cap zs w hz h hn
    · exact wayloses_c n a len cap zs w hz h hn
  · exact wayloses_long c n a len cap w (by omega) (by unfold maxLen at hm; omega)
end Go.Proofs.Ytadheikcgdhcdaa
