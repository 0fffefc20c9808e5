/-
  Messages that are put, sent, answered, thrown away: the row.
-/
import Derived.Test.YtadheikcgdhcdaaHpW
import Derived.Test.YtadheikcgdhcdaaHpT
namespace Go.Proofs.Ytadheikcgdhcdaa
open Go.RowKit
set_option linter.unusedVariables false

theorem told_holds : ToldT := fun _ _ _ _ _ _ _ _ _ _ _ _ k hLd hL hWw hby m2 o2 t => told_true k hLd hL hWw hby m2 o2 t
set_option maxRecDepth 100000 in
theorem hplays_long (m0 o0 : Int) (a : Option Addr) (len cap : Nat) (w : World) (h : 60 < len) (hm : len ≤ 9223372036854775807) : Calls Try.prog 7 #[.int .u16 m0, .int .u16 o0, .slice a len cap] w fun e w' => e = .returned (.bool true) ∧ Below w.heap.size w w' := by
  have hd : (60 : Int) < (len : Int) := by omega
  go_enter Try.func7, Try.ntmps7
  go_wp2_with fail
  refine (awake10_any _).mono ?_
  rintro e w0 ⟨rfl, hB0⟩
  go_wp2_with fail
  refine (awake10_any _).mono ?_
  rintro e w1 ⟨rfl, hB1⟩
  go_wp2
  go_ret
  exact ⟨rfl, bthen hB0 hB1⟩
theorem hplays_row (m0 o0 : Int) (a : Option Addr) (len cap : Nat) (zs : List Int) (W : World) (hm0 : 0 ≤ m0 ∧ m0 ≤ 65535) (ho0 : 0 ≤ o0 ∧ o0 ≤ 65535) (hz : Hacts W a len ∧ len ≤ maxLen) :
    Calls Try.prog 7 #[.int .u16 m0, .int .u16 o0, .slice a len cap] W fun e w' => e = .returned (.bool true) ∧ Below W.heap.size W w' := by
  by_cases h : len ≤ 60
  · exact hplays_main told_holds m0 o0 a len cap W hz.1 h hm0 ho0
  · exact hplays_long m0 o0 a len cap W (by omega) (by have := hz.2; unfold maxLen at this; omega)
end Go.Proofs.Ytadheikcgdhcdaa
