/-
  Units: what octets are one? Both answers, as one.
-/
import Derived.Test.YtpgalefpccgpfaaUnitDU
namespace Go.Proofs.Ytpgalefpccgpfaa
open Go.RowKit
set_option linter.unusedVariables false
set_option linter.unusedSimpArgs false

abbrev DecT := Int × Int × Bool × Bool × Int × Int × Bool × Int × List Int
def decAll (zs : List Int) : DecT :=
  if zs.length < 3 then (0, 0, false, false, 0, 0, false, 5, [])
  else if 276 < zs.length then (0, 0, false, false, 0, 0, false, 6, [])
  else if zs.getD 2 0 % 64 ≠ (if 63 < zs.length - 3 then 63 else ((zs.length - 3 : Nat) : Int)) then (0, 0, false, false, 0, 0, false, 4, [])
  else if zs.length = 3 then (zs.getD 0 0 % 128, zs.getD 1 0 % 128, decide (128 ≤ zs.getD 0 0), decide (128 ≤ zs.getD 1 0), 0, 0, false, 0, [])
  else if zs.length = 4 then (zs.getD 0 0 % 128, zs.getD 1 0 % 128, decide (128 ≤ zs.getD 0 0), decide (128 ≤ zs.getD 1 0), 1, zs.getD 3 0 % 8, false, 0, [])
  else if zs.length = 5 then (zs.getD 0 0 % 128, zs.getD 1 0 % 128, decide (128 ≤ zs.getD 0 0), decide (128 ≤ zs.getD 1 0), 1, zs.getD 3 0 % 8, true, 0, [])
  else (zs.getD 0 0 % 128, zs.getD 1 0 % 128, decide (128 ≤ zs.getD 0 0), decide (128 ≤ zs.getD 1 0), 2, 0, false, 0, zs.drop 3)
def DecPost (w : World) : DecT → Ending → World → Prop
  | (b, f, bi, fi, k, s, wd, er, ys), e, w' => ∃ x m c, e = .returned (.tuple #[.agg #[.int .u8 b, .int .u8 f, .bool bi, .bool fi, .int .u8 k, .int .u8 s, .bool wd, .slice x m c], .int .i64 er]) ∧ Below w.heap.size w w' ∧ Row w' x m ys ∧ m ≤ 276

theorem row_nil (w : World) : Row w none 0 [] := ⟨rfl, by simp, fun i hi => absurd hi (Nat.not_lt_zero i)⟩
theorem Row.drop3 {w : World} {x : Addr} {len : Nat} {zs : List Int} (h : Row w (some x) len zs) (h3 : 3 ≤ len) : Row w (some ⟨x.block, x.off + 3, none⟩) (len - 3) (zs.drop 3) := by
  refine ⟨by rw [List.length_drop, h.1], fun z hz => h.2.1 z (List.mem_of_mem_drop hz), fun i hi => ⟨_, rfl, ?_⟩⟩
  obtain ⟨y, hy, hc⟩ := h.2.2 (3 + i) (by omega)
  cases hy
  have e : x.add (3 + i) = (⟨x.block, x.off + 3, none⟩ : Addr).add i := by
    rw [Addr.add_lit]
    unfold Addr.add
    rw [if_neg (by omega), Nat.add_assoc]
  rw [← e, hc, List.getD_eq_getElem?_getD, List.getD_eq_getElem?_getD, List.getElem?_drop]
theorem two127 (z : Int) : decide (127 < z) = decide (128 ≤ z) := by
  by_cases h : 127 < z
  · rw [decide_eq_true h, decide_eq_true (by omega)]
  · rw [decide_eq_false h, decide_eq_false (by omega)]

theorem dec_all (a : Option Addr) (len cap : Nat) (zs : List Int) (w : World) (hr : Row w a len zs) (hcap : len ≤ cap) :
    Calls Try.prog 16 #[.slice a len cap] w (DecPost w (decAll zs)) ∧ Calls Try.prog 17 #[.slice a len cap] w (DecPost w (decAll zs)) := by
  have hl := hr.1
  by_cases h3 : len < 3
  · rw [show decAll zs = (0, 0, false, false, 0, 0, false, 5, []) from by unfold decAll; rw [if_pos (by omega)]]
    constructor
    · refine (udec_short a len cap w h3).mono ?_
      rintro e w' ⟨rfl, hB⟩
      exact ⟨none, 0, 0, rfl, hB, row_nil _, by decide⟩
    · refine (rdec_short a len cap w h3).mono ?_
      rintro e w' ⟨rfl, hB⟩
      exact ⟨none, 0, 0, rfl, hB, row_nil _, by decide⟩
  by_cases h276 : 276 < len
  · rw [show decAll zs = (0, 0, false, false, 0, 0, false, 6, []) from by unfold decAll; rw [if_neg (by omega), if_pos (by omega)]]
    constructor
    · refine (udec_long a len cap w h276).mono ?_
      rintro e w' ⟨rfl, hB⟩
      exact ⟨none, 0, 0, rfl, hB, row_nil _, by decide⟩
    · refine (rdec_long a len cap w h276).mono ?_
      rintro e w' ⟨rfl, hB⟩
      exact ⟨none, 0, 0, rfl, hB, row_nil _, by decide⟩
  obtain ⟨x, rfl, c0⟩ := hr.2.2 0 (by omega)
  obtain ⟨_, hx, c1⟩ := hr.2.2 1 (by omega)
  cases hx
  obtain ⟨_, hx, c2⟩ := hr.2.2 2 (by omega)
  cases hx
  have bnd : ∀ i, i < len → 0 ≤ zs.getD i 0 ∧ zs.getD i 0 < 256 := fun i hi => by
    rw [List.getD_eq_getElem?_getD, List.getElem?_eq_getElem (by omega)]
    exact hr.2.1 _ (List.getElem_mem _)
  have b0 := bnd 0 (by omega)
  have b1 := bnd 1 (by omega)
  have b2 := bnd 2 (by omega)
  have hd := hr.drop3 (by omega)
  have key : decAll zs = if zs.getD 2 0 % 64 ≠ (if 63 < len - 3 then 63 else ((len - 3 : Nat) : Int)) then (0, 0, false, false, 0, 0, false, 4, [])
      else if len = 3 then (zs.getD 0 0 % 128, zs.getD 1 0 % 128, decide (128 ≤ zs.getD 0 0), decide (128 ≤ zs.getD 1 0), 0, 0, false, 0, [])
      else if len = 4 then (zs.getD 0 0 % 128, zs.getD 1 0 % 128, decide (128 ≤ zs.getD 0 0), decide (128 ≤ zs.getD 1 0), 1, zs.getD 3 0 % 8, false, 0, [])
      else if len = 5 then (zs.getD 0 0 % 128, zs.getD 1 0 % 128, decide (128 ≤ zs.getD 0 0), decide (128 ≤ zs.getD 1 0), 1, zs.getD 3 0 % 8, true, 0, [])
      else (zs.getD 0 0 % 128, zs.getD 1 0 % 128, decide (128 ≤ zs.getD 0 0), decide (128 ≤ zs.getD 1 0), 2, 0, false, 0, zs.drop 3) := by
    unfold decAll
    rw [if_neg (by omega), if_neg (by omega), hl]
  rw [key]
  clear key
  by_cases hm : zs.getD 2 0 % 64 = (if 63 < len - 3 then 63 else ((len - 3 : Nat) : Int))
  case neg =>
    rw [if_pos hm]
    by_cases hk : 63 < len - 3
    · rw [if_pos hk] at hm
      constructor
      · refine (udec_form_b x len cap _ _ _ w (by omega) (by omega) hcap c0 c1 c2 b0 b1 b2 hk hm).mono ?_
        rintro e w' ⟨rfl, hB⟩
        exact ⟨none, 0, 0, rfl, hB, row_nil _, by decide⟩
      · refine (rdec_form_b x len cap _ _ _ w (by omega) (by omega) hcap c0 c1 c2 b0 b1 b2 hk hm).mono ?_
        rintro e w' ⟨rfl, hB⟩
        exact ⟨none, 0, 0, rfl, hB, row_nil _, by decide⟩
    · rw [if_neg hk] at hm
      constructor
      · refine (udec_form_a x len cap _ _ _ w (by omega) (by omega) hcap c0 c1 c2 b0 b1 b2 hk hm).mono ?_
        rintro e w' ⟨rfl, hB⟩
        exact ⟨none, 0, 0, rfl, hB, row_nil _, by decide⟩
      · refine (rdec_form_a x len cap _ _ _ w (by omega) (by omega) hcap c0 c1 c2 b0 b1 b2 hk (by omega)).mono ?_
        rintro e w' ⟨rfl, hB⟩
        exact ⟨none, 0, 0, rfl, hB, row_nil _, by decide⟩
  rw [if_neg (fun h => h hm)]
  by_cases l3 : len = 3
  · rw [if_pos l3]
    rw [if_neg (by omega)] at hm
    constructor
    · refine (udec_0 x len cap _ _ _ w (by omega) (by omega) hcap c0 c1 c2 b0 b1 b2 l3 (by omega)).mono ?_
      rintro e w' ⟨rfl, hB⟩
      exact ⟨none, 0, 0, rfl, hB, row_nil _, by decide⟩
    · refine (rdec_0 x len cap _ _ _ w (by omega) (by omega) hcap c0 c1 c2 b0 b1 b2 l3 (by omega)).mono ?_
      rintro e w' ⟨rfl, hB⟩
      exact ⟨none, 0, 0, by rw [two127, two127], hB, row_nil _, by decide⟩
  rw [if_neg l3]
  obtain ⟨_, hx, c3⟩ := hr.2.2 3 (by omega)
  cases hx
  have b3 := bnd 3 (by omega)
  by_cases l4 : len = 4
  · rw [if_pos l4]
    rw [if_neg (by omega)] at hm
    constructor
    · refine (udec_1 x len cap _ _ _ w (by omega) (by omega) hcap c0 c1 c2 b0 b1 b2 _ c3 b3 l4 (by omega)).mono ?_
      rintro e w' ⟨rfl, hB⟩
      exact ⟨none, 0, 0, rfl, hB, row_nil _, by decide⟩
    · refine (rdec_1 x len cap _ _ _ w (by omega) (by omega) hcap c0 c1 c2 b0 b1 b2 _ c3 b3 l4 (by omega)).mono ?_
      rintro e w' ⟨rfl, hB⟩
      exact ⟨none, 0, 0, by rw [two127, two127], hB, row_nil _, by decide⟩
  rw [if_neg l4]
  by_cases l5 : len = 5
  · rw [if_pos l5]
    rw [if_neg (by omega)] at hm
    constructor
    · refine (udec_2 x len cap _ _ _ w (by omega) (by omega) hcap c0 c1 c2 b0 b1 b2 _ c3 b3 l5 (by omega)).mono ?_
      rintro e w' ⟨rfl, hB⟩
      exact ⟨none, 0, 0, rfl, hB, row_nil _, by decide⟩
    · refine (rdec_2 x len cap _ _ _ w (by omega) (by omega) hcap c0 c1 c2 b0 b1 b2 _ c3 b3 l5 (by omega)).mono ?_
      rintro e w' ⟨rfl, hB⟩
      exact ⟨none, 0, 0, by rw [two127, two127], hB, row_nil _, by decide⟩
  rw [if_neg l5]
  by_cases hk : 63 < len - 3
  · rw [if_pos hk] at hm
    constructor
    · refine (udec_more_b _ x len cap _ _ _ w (by omega) (by omega) hcap c0 c1 c2 b0 b1 b2 (by omega) hk hm hd).mono ?_
      rintro e w' ⟨g, c, rfl, hB, hR⟩
      exact ⟨_, _, _, rfl, hB, hR, by omega⟩
    · refine (rdec_more_b x len cap _ _ _ w (by omega) (by omega) hcap c0 c1 c2 b0 b1 b2 (by omega) hk hm).mono ?_
      rintro e w' ⟨rfl, hB⟩
      exact ⟨_, _, _, by rw [two127, two127], hB, hd.below hB, by omega⟩
  · rw [if_neg hk] at hm
    constructor
    · refine (udec_more_a _ x len cap _ _ _ w (by omega) (by omega) hcap c0 c1 c2 b0 b1 b2 (by omega) hk hm hd).mono ?_
      rintro e w' ⟨g, c, rfl, hB, hR⟩
      exact ⟨_, _, _, rfl, hB, hR, by omega⟩
    · refine (rdec_more_a x len cap _ _ _ w (by omega) (by omega) hcap c0 c1 c2 b0 b1 b2 (by omega) hk (by omega)).mono ?_
      rintro e w' ⟨rfl, hB⟩
      exact ⟨_, _, _, by rw [two127, two127], hB, hd.below hB, by omega⟩
theorem dec_two (zs : List Int) : ∃ r : DecT, ∀ a len cap w, Row w a len zs → len ≤ cap → Calls Try.prog 16 #[.slice a len cap] w (DecPost w r) ∧ Calls Try.prog 17 #[.slice a len cap] w (DecPost w r) := ⟨decAll zs, fun a len cap w hr hc => dec_all a len cap zs w hr hc⟩
end Go.Proofs.Ytpgalefpccgpfaa
