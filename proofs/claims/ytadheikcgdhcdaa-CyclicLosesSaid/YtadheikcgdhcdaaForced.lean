/-
  Where too much waits all that does is sent again: the walk.
-/
import Derived.Test.YtadheikcgdhcdaaBack
import Derived.Test.YtadheikcgdhcdaaCxO
namespace Go.Proofs.Ytadheikcgdhcdaa
open Go.RowKit
set_option linter.unusedVariables false
set_option linter.unusedSimpArgs false

theorem msgs3_octs (n : Nat) : octs (msgs3 n) = 3 * n := by
  induction n with
  | zero => rfl
  | succ n ih => rw [← msgs3_succ, octs_snoc, ih]; show 3 * (n : Int) + 3 = _; omega
theorem msgs3_drop (n k : Nat) (h : k < n) : (msgs3 n).drop k = msg3 k :: (msgs3 n).drop (k + 1) := by
  rw [List.drop_eq_getElem_cons (by rw [msgs3_len]; exact h)]
  congr 1
  have := msgs3_get n k h
  rw [List.getElem?_eq_getElem (by rw [msgs3_len]; exact h)] at this
  simpa using this

theorem forced_facts (t i PL : Nat) (FO : Bool) (ns : List (List Int)) (ht : 1 ≤ t) (hns : 0 < ns.length) (hi : i < t) (h : (i = 0 ∧ ((PL = 0 ∧ FO = false) ∨ (PL = t ∧ FO = true))) ∨ (0 < i ∧ PL = i ∧ FO = true)) :
    forceB (cstF t 10000 PL FO 0 (msgs3 t) ns) = true ∧ placeC (cstF t 10000 PL FO 0 (msgs3 t) ns) = i ∧ forceC (cstF t 10000 PL FO 0 (msgs3 t) ns) = true := by
  have hf : fitsB (cstF t 10000 PL FO 0 (msgs3 t) ns) = false := by
    simp only [fitsB, cstF, msgs3_len, Bool.or_eq_false_iff, Bool.and_eq_false_iff, decide_eq_false_iff_not]
    exact ⟨by omega, .inl (by omega)⟩
  have hg : (decide (0 < (cstF t 10000 PL FO 0 (msgs3 t) ns).ns.length) && !fitsB (cstF t 10000 PL FO 0 (msgs3 t) ns)) = true := by
    rw [hf, Bool.not_false, Bool.and_true]; exact decide_eq_true hns
  have hF : forceB (cstF t 10000 PL FO 0 (msgs3 t) ns) = true := by unfold forceB; rw [hg, Bool.or_true]
  refine ⟨hF, ?_, ?_⟩
  · unfold placeC
    show (if (msgs3 t).length ≤ PL then 0 else PL) = i
    rw [msgs3_len]
    split <;> omega
  · unfold forceC
    rw [hF, hg]
    split <;> rfl
set_option maxRecDepth 100000 in
set_option maxHeartbeats 16000000 in
theorem forced_row (n0 j0 : Int) (w : World) (hn : 0 ≤ n0 ∧ n0 ≤ 255) (hj : 0 ≤ j0 ∧ j0 ≤ 255) :
    Calls Try.prog 10 #[.int .u8 n0, .int .u8 j0] w fun e w' => e = .returned (.bool true) ∧ Below w.heap.size w w' := by
  have hw1 : IntKind.i64.wrap n0 = n0 := wrapH _ (by omega)
  have hw2 : IntKind.i64.wrap j0 = j0 := wrapH _ (by omega)
  obtain ⟨K, hK⟩ : ∃ K : Nat, 1 + n0 % 10 = K := ⟨(1 + n0 % 10).toNat, by omega⟩
  have hKt : 1 + n0.tmod 10 = (K : Int) := by rw [Int.tmod_eq_emod_of_nonneg (by omega)]; exact hK
  have hw3 : IntKind.i64.wrap (1 + n0.tmod 10) = (K : Int) := by rw [hKt]; exact wrapH _ (by omega)
  have hK1 : 1 ≤ K ∧ K ≤ 10 := by omega
  obtain ⟨J, hJ⟩ : ∃ J : Nat, j0 % 10 = J := ⟨(j0 % 10).toNat, by omega⟩
  have hJt : j0.tmod 10 = (J : Int) := by rw [Int.tmod_eq_emod_of_nonneg (by omega)]; exact hJ
  have hJ1 : J < 10 := by omega
  have hw4 : IntKind.i64.wrap ((K : Int) + 1) = (K : Int) + 1 := wrapH _ (by omega)
  have hw5 : IntKind.i64.wrap ((K : Int) + 1 + J) = (K : Int) + 1 + J := wrapH _ (by omega)
  clear hK hn hj hJ hKt
  go_enter Try.func10, Try.ntmps10
  go_wp2_with fail
  refine (awake12_any _).mono ?_
  rintro e w0 ⟨rfl, hB0⟩
  go_wp2_with fail
  refine (COf.new w w0 hB0 60 10000 K 10000 (by omega) (by decide)).mono ?_
  rintro e w1 ⟨b, h, rfl, hA, -⟩
  clear hB0
  go_wp2_with fail
  go_loopw [7] (fun i wr => ∃ (q : Nat), q ≤ K + 1 + J ∧ i = .int .i64 q ∧ COf w wr b h 60 10000 (cstF K 10000 0 false 0 [] (msgs3 q))) (fun i _ => 700 - (intOf i).toNat)
  case atStart => exact ⟨0, by omega, rfl, hA⟩
  case round =>
    clear hA
    obtain ⟨q, hq, rfl, hA⟩ := hrel
    by_cases hlt : q < K + 1 + J
    · have hlt2 : (q : Int) < (K : Int) + 1 + J := by omega
      have hu : IntKind.u8.wrap (q : Int) = q := by rw [wrap8m]; omega
      have hc := putCode_ok (m := 60) (o := 10000) (ss := []) (ns := msgs3 q) (n := 3) (by omega) (by simp [msgs3_len]; omega) (by rw [msgs3_octs]; simp [octs]; omega)
      go_wp2_with fail
      refine hA.hold.mono ?_
      rintro e w4 ⟨rfl, rfl⟩
      go_wp2_with fail
      have hA2 := hA.below ((Below.refl _ _).alloc (Nat.le_refl _) (.cells #[.int .u8 (q : Int), .int .u8 1, .int .u8 2] 5 (0, 0)))
      refine (hA2.put_ok _ (msg3 q) (Oct.new w4 (msg3 q) 5 (0, 0) 3) (by decide) hc (cstF K 10000 0 false 0 [] (msgs3 (q + 1))) (by rw [← msgs3_succ]; rfl)).mono ?_
      rintro e w5 ⟨rfl, k5, -⟩
      clear hA hA2 hc
      go_wp2
      exact ⟨⟨q + 1, by omega, by go_num, k5⟩, by simp [intOf]; omega⟩
    · obtain ⟨P, hP⟩ : ∃ P, P = K + 1 + J := ⟨_, rfl⟩
      have hqP : q = P := by omega
      subst hqP
      have hge : ¬ ((q : Int) < (K : Int) + 1 + J) := by omega
      have hPK : K < q ∧ q ≤ 20 := by omega
      clear hlt hq hP
      go_wp2_with fail
      go_loopw [8] (fun i wr => ∃ (t : Nat), t ≤ K ∧ i = .int .i64 t ∧ COf w wr b h 60 10000 (cstF K 10000 0 false 0 (msgs3 t) ((msgs3 q).drop t))) (fun i _ => 700 - (intOf i).toNat)
      case atStart => exact ⟨0, by omega, rfl, hA⟩
      case round =>
        clear hA
        obtain ⟨t, ht, rfl, hA⟩ := hrel
        by_cases hlt : t < K
        · have hlt2 : (t : Int) < (K : Int) := by omega
          have hd := msgs3_drop q t (by omega)
          have hfit : fitsB (cstF K 10000 0 false 0 (msgs3 t) (msg3 t :: (msgs3 q).drop (t + 1))) = true := by
            simp only [fitsB, cstF, msgs3_len, msgs3_octs, Bool.or_eq_true, Bool.and_eq_true, decide_eq_true_eq]
            right
            refine ⟨hlt2, ?_⟩
            show 3 * (t : Int) + 3 ≤ 10000
            omega
          rw [hd] at hA
          have hnx : Calls Try.prog 48 #[.pointer (some ⟨b, 0, none⟩)] _ fun e w' => ∃ (g8 c8 : Nat) (cs8 : List Value), e = .returned (.agg #[.int .u8 127, .int .u8 ((0 + (msgs3 t).length) % 128), .bool true, .bool true, .int .u8 2, .int .u8 0, .bool false, .slice (some ⟨g8, 0, none⟩) 3 c8]) ∧
            COf w w' b h 60 10000 (cstF K 10000 0 false 0 (msgs3 t ++ [msg3 t]) ((msgs3 q).drop (t + 1))) ∧ KpC _ w' ∧ Blk w' g8 cs8 5 ∧ (∀ (j : Nat) (u : Value), ((msg3 t).map (Value.int .u8))[j]? = some u → cs8[j]? = some u) := hA.next_new rfl (msg3 t) _ rfl hfit (by show (msgs3 t).length < 127; rw [msgs3_len]; omega)
          rw [msgs3_succ, show (0 + ((msgs3 t).length : Int)) % 128 = t from by rw [msgs3_len]; omega] at hnx
          have hwt : IntKind.i64.wrap (t : Int) = t := wrapH _ (by omega)
          clear hA hfit hd
          go_wp2_with fail
          refine hnx.mono ?_
          rintro e w8 ⟨g8, c8, cs8, rfl, k8, -, hB8, hc8⟩
          clear hnx
          have k9 := k8.below ((Below.refl _ _).alloc (Nat.le_refl _) (.cells #[.int .u8 127, .int .u8 (t : Int), .bool true, .bool true, .int .u8 2, .int .u8 0, .bool false, .slice (some ⟨g8, 0, none⟩) 3 c8] 69))
          clear hc8 hB8 k8
          go_wp2
          exact ⟨⟨t + 1, by omega, by go_num, k9⟩, by simp [intOf]; omega⟩
        · have htK : t = K := by omega
          subst htK
          have hge2 : ¬ ((t : Int) < (t : Int)) := by omega
          clear hlt ht hge
          go_wp2_with fail
          have hD : ((msgs3 q).drop t).length = q - t := by rw [List.length_drop, msgs3_len]
          have hD0 : 0 < ((msgs3 q).drop t).length := by omega
          go_loopw [10] (fun i wr => ∃ (r PL : Nat) (FO : Bool), r ≤ 3 ∧ i = .int .i64 r ∧ ((r = 0 ∧ PL = 0 ∧ FO = false) ∨ (0 < r ∧ PL = t ∧ FO = true)) ∧ COf w wr b h 60 10000 (cstF t 10000 PL FO 0 (msgs3 t) ((msgs3 q).drop t))) (fun i _ => 700 - (intOf i).toNat)
          case atStart => exact ⟨0, 0, false, by omega, rfl, .inl ⟨rfl, rfl, rfl⟩, hA⟩
          case round =>
            clear hA
            obtain ⟨r, PL, FO, hr, rfl, hRP, hA⟩ := hrel
            by_cases hr3 : r < 3
            · have hr4 : (r : Int) < 3 := by omega
              have hP0 : (PL = 0 ∧ FO = false) ∨ (PL = t ∧ FO = true) := by
                rcases hRP with ⟨_, h⟩ | ⟨_, h⟩
                · exact .inl h
                · exact .inr h
              have HP0 := Lib.hid hP0
              have HRP := Lib.hid hRP
              clear hRP hP0
              go_wp2_with fail
              go_loopw [11] (fun i wr => ∃ (j PJ : Nat) (FJ : Bool), j ≤ t ∧ i = .int .i64 j ∧ ((j = 0 ∧ ((PJ = 0 ∧ FJ = false) ∨ (PJ = t ∧ FJ = true))) ∨ (0 < j ∧ PJ = j ∧ FJ = true)) ∧ COf w wr b h 60 10000 (cstF t 10000 PJ FJ 0 (msgs3 t) ((msgs3 q).drop t))) (fun i _ => 700 - (intOf i).toNat)
              case atStart => exact ⟨0, PL, FO, by omega, rfl, .inl ⟨rfl, HP0.out⟩, hA⟩
              case round =>
                clear hA
                obtain ⟨j, PJ, FJ, hj, rfl, hJP, hA⟩ := hrel
                by_cases hjt : j < t
                · have hjt2 : (j : Int) < (t : Int) := by omega
                  obtain ⟨f1, f2, f3⟩ := forced_facts t j PJ FJ _ hK1.1 hD0 hjt hJP
                  have hnx : Calls Try.prog 48 #[.pointer (some ⟨b, 0, none⟩)] _ fun e w' => ∃ (g8 c8 : Nat) (cs8 : List Value), e = .returned (.agg #[.int .u8 127, .int .u8 ((0 + placeC (cstF t 10000 PJ FJ 0 (msgs3 t) ((msgs3 q).drop t))) % 128), .bool true, .bool true, .int .u8 2, .int .u8 0, .bool false, .slice (some ⟨g8, 0, none⟩) 3 c8]) ∧
                    COf w w' b h 60 10000 (cstF t 10000 (placeC (cstF t 10000 PJ FJ 0 (msgs3 t) ((msgs3 q).drop t)) + 1) (forceC (cstF t 10000 PJ FJ 0 (msgs3 t) ((msgs3 q).drop t))) 0 (msgs3 t) ((msgs3 q).drop t)) ∧ KpC _ w' ∧ Blk w' g8 cs8 5 ∧ (∀ (i : Nat) (u : Value), ((msg3 j).map (Value.int .u8))[i]? = some u → cs8[i]? = some u) := hA.next_again (.inr f1) (msg3 j) (by rw [f2]; exact msgs3_get t j hjt)
                  rw [f2, f3, show (0 + (j : Int)) % 128 = j from by omega] at hnx
                  have hwj : IntKind.i64.wrap (j : Int) = j := wrapH _ (by omega)
                  have HJP := Lib.hid hJP
                  clear hA f1 f2 f3 hJP
                  go_wp2_with fail
                  refine hnx.mono ?_
                  rintro e w8 ⟨g8, c8, cs8, rfl, k8, -, hB8, hc8⟩
                  clear hnx
                  have k9 := k8.below ((Below.refl _ _).alloc (Nat.le_refl _) (.cells #[.int .u8 127, .int .u8 (j : Int), .bool true, .bool true, .int .u8 2, .int .u8 0, .bool false, .slice (some ⟨g8, 0, none⟩) 3 c8] 69))
                  clear hc8 hB8 k8
                  go_wp2_with fail
                  have hrs : Calls Try.prog 49 #[.pointer (some ⟨b, 0, none⟩)] _ fun e w' => e = .returned (.bool true) ∧ w' = _ := k9.resends
                  refine hrs.mono ?_
                  rintro e w9 ⟨rfl, rfl⟩
                  clear hrs
                  go_wp2
                  exact ⟨⟨j + 1, j + 1, true, by omega, by go_num, .inr ⟨by omega, rfl, rfl⟩, k9⟩, by simp [intOf]; omega⟩
                · have hjt2 : j = t := by omega
                  subst hjt2
                  have hge3 : ¬ ((j : Int) < (j : Int)) := by omega
                  have hJ2 : PJ = j ∧ FJ = true := by
                    rcases hJP with ⟨h, _⟩ | ⟨_, h⟩
                    · omega
                    · exact h
                  obtain ⟨rfl, rfl⟩ := hJ2
                  clear hjt hj hJP
                  go_wp2
                  exact ⟨⟨r + 1, PJ, true, by omega, by go_num, .inr ⟨by omega, rfl, rfl⟩, hA⟩, by simp [intOf]; omega⟩
            · have hr3' : r = 3 := by omega
              subst hr3'
              have hJ2 : PL = t ∧ FO = true := by
                rcases hRP with ⟨h, _⟩ | ⟨_, h⟩
                · cases h
                · exact h
              obtain ⟨rfl, rfl⟩ := hJ2
              clear hr3 hr hRP
              have hwa : IntKind.i64.wrap ((PL : Int) - 1) = (PL : Int) - 1 := wrapH _ (by omega)
              have hwb : IntKind.u8.wrap ((PL : Int) - 1) = (PL : Int) - 1 := by rw [wrap8m]; omega
              have hans : ansC (cstF PL 10000 PL true 0 (msgs3 PL) ((msgs3 q).drop PL)) ((PL : Int) - 1) PL = cstF PL 10000 0 true PL [] ((msgs3 q).drop PL) := by
                unfold ansC
                rw [show ((PL : Int) - 1 + 1) % 128 = PL from by omega]
                simp only [cstF, Nat.sub_self]
                rw [List.drop_eq_nil_of_le (by rw [msgs3_len]; omega)]
              have hA5 := hA.answer_yes ((PL : Int) - 1) 0 0 0 true true false (.slice none 0 0) rfl (by omega) (by show knowsB 0 (msgs3 PL).length _ = true; rw [msgs3_len]; simp only [knowsB, Bool.and_eq_true, decide_eq_true_eq]; omega) PL (by show ((PL : Int) - 1 - 0 + 1) % 128 = PL; omega)
              rw [hans] at hA5
              clear hA hans
              go_wp2_with fail
              refine hA5.mono ?_
              rintro e w6 ⟨rfl, k6, -⟩
              clear hA5
              have hnf : Calls Try.prog 48 #[.pointer (some ⟨b, 0, none⟩)] w6 fun e w' => e = .returned (.agg #[.int .u8 127, .int .u8 (((PL : Int) - 1) % 128), .bool true, .bool true, .int .u8 0, .int .u8 0, .bool false, .slice none 0 0]) ∧ COf w w' b h 60 10000 (cstF PL 10000 0 false PL [] ((msgs3 q).drop PL)) ∧ KpC w6 w' := k6.next_fill rfl (.inr rfl)
              rw [show ((PL : Int) - 1) % 128 = (PL : Int) - 1 from by omega] at hnf
              clear k6
              go_wp2_with fail
              refine hnf.mono ?_
              rintro e w7 ⟨rfl, k7, -⟩
              clear hnf
              have hU := Blk.new w7 [.int .u8 127, .int .u8 ((PL : Int) - 1), .bool true, .bool true, .int .u8 0, .int .u8 0, .bool false, .slice none 0 0] 69
              have k7' := k7.below ((Below.refl _ _).alloc (Nat.le_refl _) (.cells #[.int .u8 127, .int .u8 ((PL : Int) - 1), .bool true, .bool true, .int .u8 0, .int .u8 0, .bool false, .slice none 0 0] 69))
              have hd := msgs3_drop q PL (by omega)
              rw [hd] at k7'
              have hnx : Calls Try.prog 48 #[.pointer (some ⟨b, 0, none⟩)] _ fun e w' => ∃ (g8 c8 : Nat) (cs8 : List Value), e = .returned (.agg #[.int .u8 127, .int .u8 (((PL : Int) + (0 : Nat)) % 128), .bool true, .bool true, .int .u8 2, .int .u8 0, .bool false, .slice (some ⟨g8, 0, none⟩) 3 c8]) ∧
                COf w w' b h 60 10000 (cstF PL 10000 0 false PL ([] ++ [msg3 PL]) ((msgs3 q).drop (PL + 1))) ∧ KpC _ w' ∧ Blk w' g8 cs8 5 ∧ (∀ (i : Nat) (u : Value), ((msg3 PL).map (Value.int .u8))[i]? = some u → cs8[i]? = some u) := k7'.next_new rfl (msg3 PL) _ rfl rfl (by show 0 < 127; omega)
              rw [show ((PL : Int) + (0 : Nat)) % 128 = PL from by omega] at hnx
              clear k7 k7' hd hD hD0
              go_wp2_with fail
              refine hnx.mono ?_
              rintro e w8 ⟨g8, c8, cs8, rfl, k8, hK8, -, -⟩
              have hU8 := hK8.2 _ _ 69 (by decide) (by decide) (by decide) hU
              have hU9 := hU8.alloc (.cells #[.int .u8 127, .int .u8 (PL : Int), .bool true, .bool true, .int .u8 2, .int .u8 0, .bool false, .slice (some ⟨g8, 0, none⟩) 3 c8] 69)
              have u1 := hU9.cell 1 rfl
              have u4 := hU9.cell 4 rfl
              have k9 := k8.below ((Below.refl _ _).alloc (Nat.le_refl _) (.cells #[.int .u8 127, .int .u8 (PL : Int), .bool true, .bool true, .int .u8 2, .int .u8 0, .bool false, .slice (some ⟨g8, 0, none⟩) 3 c8] 69))
              have hrs : Calls Try.prog 49 #[.pointer (some ⟨b, 0, none⟩)] _ fun e w' => e = .returned (.bool false) ∧ w' = _ := k9.resends
              have hho := k9.hold
              have hse : Calls Try.prog 24 #[.pointer (some ⟨h, 0, none⟩)] _ fun e w' => e = .returned (.int .i64 1) ∧ w' = _ := k9.sent
              have hwi : IntKind.i64.wrap (PL : Int) = PL := wrapH _ (by omega)
              have HB := Lib.hid k9.bel
              clear hnx k8 hK8 hU8 hU9 hU k9
              go_wp2_with fail
              refine hrs.mono ?_
              rintro e w9 ⟨rfl, rfl⟩
              go_wp2_with fail
              refine hho.mono ?_
              rintro e w9 ⟨rfl, rfl⟩
              go_wp2_with fail
              refine hse.mono ?_
              rintro e w9 ⟨rfl, rfl⟩
              go_wp2
              go_ret
              exact ⟨rfl, HB.out⟩
end Go.Proofs.Ytadheikcgdhcdaa
