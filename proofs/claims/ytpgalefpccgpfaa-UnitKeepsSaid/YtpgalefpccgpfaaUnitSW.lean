/-
  UnitSame: are two units one? Names of statuses.
-/
import Derived.Test.YtpgalefpccgpfaaFlat
import Derived.Test.YtpgalefpccgpfaaUnitSY
namespace Go.Proofs.Ytpgalefpccgpfaa
open Go.RowKit
set_option linter.unusedVariables false
set_option linter.unusedSimpArgs false

open Go.ChangeShapes Go.WideShapes in
/-- A row of octets that came in, and what stands in it. -/
theorem open_row {H : Type} {enc : TypeId × Value → H} {W : World} {fuel : Nat} {v : Value} {y : DataW H × List MemPlace} (h : DataW.trod enc Try.prog W 0 (fun _ => true) true fuel 22 [v] = some y) :
    ∃ a len cap, ∃ zs : List Int, v = .slice a len cap ∧ Row W a len zs := by
  rcases open_ints Try.underlying22 Try.underlying5 (by kernel_rfl) h with ⟨hcs, _⟩ | ⟨x, l, c, zs, hcs, _, hl, hm, hz, _, hcell, hwz⟩
  · exact ⟨none, 0, 0, [], by simpa using hcs, rfl, by simp, fun i hi => absurd hi (Nat.not_lt_zero i)⟩
  · have hz2 : zs.length = c := by simpa using hz
    have hlen : (zs.take l).length = l := by rw [List.length_take]; omega
    refine ⟨some x, l, c, zs.take l, by simpa using hcs, hlen, ?_, fun i hi => ⟨x, rfl, ?_⟩⟩
    · intro z hz
      have := bounds_u8 (hwz z (List.mem_of_mem_take hz))
      omega
    · rw [hcell i (by omega), List.getD_eq_getElem?_getD, List.getD_eq_getElem?_getD, List.getElem?_take_of_lt hi]

theorem same_row (b f : Int) (bi fi : Bool) (k s : Int) (wd : Bool) (a : Option Addr) (len cap : Nat) (zs : List Int) (b' f' : Int) (bi' fi' : Bool) (k' s' : Int) (wd' : Bool) (a' : Option Addr) (len' cap' : Nat) (zs' : List Int) (one : Bool) (n : Int) (W : World) (hr : Row W a len zs) (hr' : Row W a' len' zs') (hn : 0 ≤ n ∧ n ≤ 255) :
    Calls Try.prog 4 #[.agg #[.int .u8 b, .int .u8 f, .bool bi, .bool fi, .int .u8 k, .int .u8 s, .bool wd, .slice a len cap], .agg #[.int .u8 b', .int .u8 f', .bool bi', .bool fi', .int .u8 k', .int .u8 s', .bool wd', .slice a' len' cap'], .bool one, .int .u8 n] W fun e w' => e = .returned (.bool true) ∧ Below W.heap.size W w' := by
  by_cases h : 300 < len
  · exact same_long_one b f bi fi k s wd a len cap zs b' f' bi' fi' k' s' wd' a' len' cap' zs' one n h W
  by_cases h' : 300 < len'
  · exact same_long_two b f bi fi k s wd a len cap zs b' f' bi' fi' k' s' wd' a' len' cap' zs' one n (by omega) h' W
  cases one
  · exact same_no b f bi fi k s wd a len cap zs b' f' bi' fi' k' s' wd' a' len' cap' zs' n hn.1 hn.2 W (by omega) (by omega) hr hr'
  · exact same_yes b f bi fi k s wd a len cap zs b' f' bi' fi' k' s' wd' a' len' cap' n hn.1 hn.2 W (by omega) (by omega) hr
end Go.Proofs.Ytpgalefpccgpfaa
