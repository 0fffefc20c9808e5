/-
  Units that go and come on a cyclic way: the row.
-/
import Derived.Test.YtadheikcgdhcdaaCpW
namespace Go.Proofs.Ytadheikcgdhcdaa
open Go.RowKit
set_option linter.unusedVariables false

set_option maxRecDepth 100000 in
theorem cplays_long (m0 a0 o0 : Int) (a : Option Addr) (len cap : Nat) (w : World) (h : 80 < len) (hm : len ≤ 9223372036854775807) : Calls Try.prog 13 #[.int .u8 m0, .int .u8 a0, .int .u8 o0, .slice a len cap] w fun e w' => e = .returned (.bool true) ∧ Below w.heap.size w w' := by
  have hd : (80 : Int) < (len : Int) := by omega
  go_enter Try.func13, Try.ntmps13
  go_wp2_with fail
  refine (awake12_any _).mono ?_
  rintro e w0 ⟨rfl, hB0⟩
  go_wp2_with fail
  refine (awake12_any _).mono ?_
  rintro e w1 ⟨rfl, hB1⟩
  go_wp2
  go_ret
  exact ⟨rfl, bthen hB0 hB1⟩
theorem cplays_row (m0 a0 o0 : Int) (a : Option Addr) (len cap : Nat) (zs : List Int) (W : World) (hm0 : 0 ≤ m0 ∧ m0 ≤ 255) (ha0 : 0 ≤ a0 ∧ a0 ≤ 255) (ho0 : 0 ≤ o0 ∧ o0 ≤ 255) (hz : Cacts W a len ∧ len ≤ maxLen) :
    Calls Try.prog 13 #[.int .u8 m0, .int .u8 a0, .int .u8 o0, .slice a len cap] W fun e w' => e = .returned (.bool true) ∧ Below W.heap.size W w' := by
  by_cases h : len ≤ 80
  · exact cplays_main m0 a0 o0 a len cap W hz.1 h hm0 ha0 ho0
  · exact cplays_long m0 a0 o0 a len cap W (by omega) (by have := hz.2; unfold maxLen at this; omega)
end Go.Proofs.Ytadheikcgdhcdaa
