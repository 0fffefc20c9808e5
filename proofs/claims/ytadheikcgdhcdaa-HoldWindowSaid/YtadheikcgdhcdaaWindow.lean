/-
  No more wait than may; the others come when some are answered: the walk.
-/
import Derived.Test.YtadheikcgdhcdaaTurns
namespace Go.Proofs.Ytadheikcgdhcdaa
open Go.RowKit
set_option linter.unusedVariables false
set_option linter.unusedSimpArgs false

set_option maxRecDepth 100000 in
set_option maxHeartbeats 8000000 in
theorem window_row (k0 : Int) (w : World) (hk0 : 0 ≤ k0 ∧ k0 ≤ 255) :
    Calls Try.prog 4 #[.int .u8 k0] w fun e w' => e = .returned (.bool true) ∧ Below w.heap.size w w' := by
  have hw1 : IntKind.i64.wrap k0 = k0 := wrapH _ (by omega)
  obtain ⟨K, hK⟩ : ∃ K : Nat, k0 % 127 = K := ⟨(k0 % 127).toNat, by omega⟩
  have hKt : k0.tmod 127 = (K : Int) := by rw [Int.tmod_eq_emod_of_nonneg (by omega)]; exact hK
  have hK1 : K ≤ 126 := by omega
  clear hK hk0
  go_enter Try.func4, Try.ntmps4
  go_wp2_with fail
  refine (awake10_any _).mono ?_
  rintro e w0 ⟨rfl, hB0⟩
  go_wp2_with fail
  refine (HOf.new w w0 hB0 300 1048576).mono ?_
  rintro e w1 ⟨h, rfl, hA, -⟩
  clear hB0
  go_wp2_with fail
  go_loopw [4] (fun i wr => ∃ (q : Nat) (ns : List (List Int)), q ≤ 200 ∧ i = .int .i64 q ∧ ns.length = q ∧ HOf w wr h 300 1048576 0 [] ns) (fun i _ => 700 - (intOf i).toNat)
  case atStart => exact ⟨0, [], by omega, rfl, rfl, hA⟩
  case round =>
    clear hA
    obtain ⟨q, ns, hq, rfl, hns, hA⟩ := hrel
    by_cases hlt : q < 200
    · have hlt2 : (q : Int) < 200 := by omega
      have ho := hA.octs
      have hc := putCode_ok (m := 300) (o := 1048576) (ss := []) (ns := ns) (n := 3) (by omega) (by simp; omega) (by simp [octs] at *; omega)
      have hu : IntKind.u8.wrap (q : Int) = q := by rw [wrap8m]; omega
      go_wp2_with fail
      have hA2 := hA.below ((Below.refl _ _).alloc (Nat.le_refl _) (.cells #[.int .u8 (q : Int), .int .u8 1, .int .u8 2] 5 (0, 0)))
      refine (hA2.put _ [(q : Int), 1, 2] (Oct.new wr [(q : Int), 1, 2] 5 (0, 0) 3) (by decide)).mono ?_
      rw [show ([(q : Int), 1, 2] : List Int).length = 3 from rfl, hc, if_pos rfl]
      rintro e w5 ⟨rfl, k5, -⟩
      clear hA hA2 hc ho
      go_wp2
      exact ⟨⟨q + 1, _, by omega, by go_num, by simp [hns], k5⟩, by simp [intOf]; omega⟩
    · have hq2 : q = 200 := by omega
      subst hq2
      clear hlt hq
      go_wp2_with fail
      go_loopw [5, 6] (fun n i wr => ∃ (q p r : Nat) (ss ns : List (List Int)), q ≤ 200 ∧ i = .int .i64 q ∧ n = .int .i64 p ∧ p = min q 127 ∧ ss.length = p ∧ ns.length = r ∧ r + p = 200 ∧ HOf w wr h 300 1048576 0 ss ns) (fun _ i _ => 700 - (intOf i).toNat)
      case atStart => exact ⟨0, 0, 200, [], ns, by omega, rfl, rfl, by omega, rfl, hns, by omega, hA⟩
      case round =>
        clear hA hns ns
        obtain ⟨q, p, r, ss, ns, hq, rfl, rfl, hp, hss, hns, hr, hA⟩ := hrel
        by_cases hlt : q < 200
        · have hlt2 : (q : Int) < 200 := by omega
          by_cases h1 : q < 127
          · obtain ⟨x, ns', rfl⟩ : ∃ x ns', ns = x :: ns' := by
              cases ns with
              | nil => simp at hns; omega
              | cons x ns' => exact ⟨x, ns', rfl⟩
            have hP := Lib.hid hp
            clear hp
            go_wp2_with fail
            refine (hA.send_ok (by have := hP.out; omega)).mono ?_
            rintro e w5 ⟨g8, c8, cs8, rfl, k5, -, -, -⟩
            clear hA
            go_wp2
            refine ⟨?_, by simp [intOf]; omega⟩
            repeat apply Exists.intro
            exact And.intro ⟨q + 1, p + 1, r - 1, _, _, by omega, by go_num, by go_num, by have := hP.out; omega, by simp [hss], by simp at hns; omega, by simp at hns; omega, k5⟩ (by first | rfl | exact ⟨rfl, rfl⟩ | exact ⟨rfl, rfl, rfl⟩)
          · have hP := Lib.hid hp
            clear hp
            go_wp2_with fail
            refine (hA.send_full (by have := hP.out; omega) (by have := hP.out; omega)).mono ?_
            rintro e w5 ⟨rfl, rfl⟩
            go_wp2
            refine ⟨?_, by simp [intOf]; omega⟩
            repeat apply Exists.intro
            exact And.intro ⟨q + 1, p, r, _, _, by omega, by go_num, rfl, by have := hP.out; omega, hss, hns, hr, hA⟩ (by first | rfl | exact ⟨rfl, rfl⟩ | exact ⟨rfl, rfl, rfl⟩)
        · have hq2 : q = 200 := by omega
          subst hq2
          have hp2 : p = 127 := by omega
          subst hp2
          have hr2 : r = 73 := by omega
          subst hr2
          clear hlt hq hr hp
          have hu : IntKind.u8.wrap (K : Int) = K := by rw [wrap8m]; omega
          go_wp2_with fail
          refine (hA.free_yes K (by omega) (by rw [hss]; simp [knowsB]; omega) (K + 1) (by omega)).mono ?_
          rintro e w5 ⟨rfl, k5, -⟩
          have hss2 : (ss.drop (K + 1)).length = 126 - K := by rw [List.length_drop, hss]; omega
          generalize ss.drop (K + 1) = s2 at hss2 k5
          clear hA hss ss
          go_wp2_with fail
          go_loopw [13, 14] (fun n i wr => ∃ (q p r : Nat) (ss ns : List (List Int)), q ≤ 200 ∧ i = .int .i64 q ∧ n = .int .i64 p ∧ p = min q (min (K + 1) 73) ∧ ss.length + r = 199 - K ∧ ns.length = r ∧ r + p = 73 ∧ HOf w wr h 300 1048576 (((K : Int) + 1) % 128) ss ns) (fun _ i _ => 700 - (intOf i).toNat)
          case atStart => exact ⟨0, 0, 73, s2, ns, by omega, rfl, rfl, by omega, by omega, hns, by omega, k5⟩
          case round =>
            clear k5 hss2 s2 hns ns
            obtain ⟨q, p, r, ss, ns, hq, rfl, rfl, hp, hss, hns, hr, hA⟩ := hrel
            by_cases hlt : q < 200
            · have hlt2 : (q : Int) < 200 := by omega
              by_cases h1 : r = 0
              · obtain rfl : ns = [] := List.eq_nil_of_length_eq_zero (by omega)
                have hP := Lib.hid hp
                clear hp
                go_wp2_with fail
                refine hA.send_none.mono ?_
                rintro e w5 ⟨rfl, rfl⟩
                go_wp2
                exact ⟨⟨q + 1, p, r, _, _, by omega, by go_num, rfl, by have := hP.out; omega, hss, hns, hr, hA⟩, by simp [intOf]; omega⟩
              · by_cases h2 : ss.length < 127
                · obtain ⟨x, ns', rfl⟩ : ∃ x ns', ns = x :: ns' := by
                    cases ns with
                    | nil => simp at hns; omega
                    | cons x ns' => exact ⟨x, ns', rfl⟩
                  have hP := Lib.hid hp
                  clear hp
                  go_wp2_with fail
                  refine (hA.send_ok h2).mono ?_
                  rintro e w5 ⟨g8, c8, cs8, rfl, k5, -, -, -⟩
                  clear hA
                  go_wp2
                  exact ⟨⟨q + 1, p + 1, r - 1, _, _, by omega, by go_num, by go_num, by have := hP.out; omega, by simp; omega, by simp at hns; omega, by omega, k5⟩, by simp [intOf]; omega⟩
                · have hP := Lib.hid hp
                  clear hp
                  go_wp2_with fail
                  refine (hA.send_full (by omega) (by omega)).mono ?_
                  rintro e w5 ⟨rfl, rfl⟩
                  go_wp2
                  exact ⟨⟨q + 1, p, r, _, _, by omega, by go_num, rfl, by have := hP.out; omega, hss, hns, hr, hA⟩, by simp [intOf]; omega⟩
            · have hq2 : q = 200 := by omega
              subst hq2
              have hw3 : IntKind.i64.wrap ((K : Int) + 1) = (K : Int) + 1 := wrapH _ (by omega)
              by_cases h73 : (73 : Int) < (K : Int) + 1
              · have hp2 : p = 73 := by omega
                subst hp2
                clear hlt hq hr hp
                go_wp2
                go_ret
                exact ⟨rfl, hA.bel⟩
              · have hp2 : p = K + 1 := by omega
                subst hp2
                clear hlt hq hr hp
                go_wp2
                go_ret
                exact ⟨ret_bool (by simp), hA.bel⟩
end Go.Proofs.Ytadheikcgdhcdaa
