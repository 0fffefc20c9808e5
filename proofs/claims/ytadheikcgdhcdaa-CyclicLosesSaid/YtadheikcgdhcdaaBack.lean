/-
  One that is asked for again is sent again, and all behind it: the walk.
-/
import Derived.Test.YtadheikcgdhcdaaTurns
import Derived.Test.YtadheikcgdhcdaaBxO
namespace Go.Proofs.Ytadheikcgdhcdaa
open Go.RowKit
set_option linter.unusedVariables false
set_option linter.unusedSimpArgs false

def msg3 (j : Nat) : List Int := [(j : Int), 1, 2]
def msgs3 (n : Nat) : List (List Int) := (List.range n).map msg3
theorem msgs3_len (n : Nat) : (msgs3 n).length = n := by simp [msgs3]
theorem msgs3_succ (n : Nat) : msgs3 n ++ [msg3 n] = msgs3 (n + 1) := by simp [msgs3, List.range_succ]
theorem msgs3_get (n j : Nat) (h : j < n) : (msgs3 n)[j]? = some (msg3 j) := by simp [msgs3, h]

/-- Behind so many messages, each sent. -/
def bstS (ss ns : List (List Int)) : BSt := { fib := true, bib := true, last := 127, asked := false, ag := -1, q0 := false, q1 := false, i0 := false, i1 := false, f := 0, ss := ss, ns := ns }
/-- Behind an answer that asks again from the J-th on, at place a. -/
def bstR (J : Nat) (a : Int) (ss ns : List (List Int)) : BSt := { fib := false, bib := true, last := 127, asked := false, ag := a, q0 := false, q1 := false, i0 := false, i1 := false, f := J, ss := ss, ns := ns }
set_option maxRecDepth 100000 in
set_option maxHeartbeats 8000000 in
theorem back_row (n0 j0 : Int) (w : World) (hn : 0 ≤ n0 ∧ n0 ≤ 255) (hj : 0 ≤ j0 ∧ j0 ≤ 255) :
    Calls Try.prog 9 #[.int .u8 n0, .int .u8 j0] w fun e w' => e = .returned (.bool true) ∧ Below w.heap.size w w' := by
  have hw1 : IntKind.i64.wrap n0 = n0 := wrapH _ (by omega)
  have hw2 : IntKind.i64.wrap j0 = j0 := wrapH _ (by omega)
  obtain ⟨K, hK⟩ : ∃ K : Nat, 2 + n0 % 20 = K := ⟨(2 + n0 % 20).toNat, by omega⟩
  have hKt : 2 + n0.tmod 20 = (K : Int) := by rw [Int.tmod_eq_emod_of_nonneg (by omega)]; exact hK
  have hw3 : IntKind.i64.wrap (2 + n0.tmod 20) = (K : Int) := by rw [hKt]; exact wrapH _ (by omega)
  have hK1 : 2 ≤ K ∧ K ≤ 21 := by omega
  obtain ⟨J, hJ⟩ : ∃ J : Nat, j0 % (K : Int) = J := ⟨(j0 % (K : Int)).toNat, by have := Int.emod_nonneg j0 (show (K : Int) ≠ 0 by omega); omega⟩
  have hJt : j0.tmod (K : Int) = (J : Int) := by rw [Int.tmod_eq_emod_of_nonneg (by omega)]; exact hJ
  have hJ1 : J < K := by have := Int.emod_lt_of_pos j0 (show (0 : Int) < (K : Int) by omega); omega
  clear hK hn hj hJ hKt
  go_enter Try.func9, Try.ntmps9
  go_wp2_with fail
  refine (awake11_any _).mono ?_
  rintro e w0 ⟨rfl, hB0⟩
  go_wp2_with fail
  refine (BOf.new w w0 hB0 60 10000).mono ?_
  rintro e w1 ⟨b, h, rfl, hA, -⟩
  clear hB0
  go_wp2_with fail
  go_loopw [7] (fun i wr => ∃ (q : Nat), q ≤ K ∧ i = .int .i64 q ∧ BOf w wr b h 60 10000 (bstS (msgs3 q) [])) (fun i _ => 700 - (intOf i).toNat)
  case atStart => exact ⟨0, by omega, rfl, hA⟩
  case round =>
    clear hA
    obtain ⟨q, hq, rfl, hA⟩ := hrel
    by_cases hlt : q < K
    · have hlt2 : (q : Int) < (K : Int) := by omega
      have hu : IntKind.u8.wrap (q : Int) = q := by rw [wrap8m]; omega
      have ho := hA.octs
      have hos : octs (bstS (msgs3 q) []).ss = octs (msgs3 q) := rfl
      have hls : (bstS (msgs3 q) []).ss.length = q := msgs3_len q
      rw [hos, hls] at ho
      have hc := putCode_ok (m := 60) (o := 10000) (ss := msgs3 q) (ns := []) (n := 3) (by omega) (by simp [msgs3_len]; omega) (by simp [octs] at *; omega)
      go_wp2_with fail
      refine hA.hold.mono ?_
      rintro e w4 ⟨rfl, rfl⟩
      go_wp2_with fail
      have hA2 := hA.below ((Below.refl _ _).alloc (Nat.le_refl _) (.cells #[.int .u8 (q : Int), .int .u8 1, .int .u8 2] 5 (0, 0)))
      refine (hA2.put_ok _ (msg3 q) (Oct.new w4 (msg3 q) 5 (0, 0) 3) (by decide) hc (bstS (msgs3 q) [msg3 q]) rfl).mono ?_
      rintro e w5 ⟨rfl, k5, -⟩
      clear hA hA2 hc ho
      go_wp2_with fail
      have hnx : Calls Try.prog 42 #[.pointer (some ⟨b, 0, none⟩)] w5 fun e w' => ∃ (g8 c8 : Nat) (cs8 : List Value), e = .returned (.agg #[.int .u8 127, .int .u8 ((0 + (msgs3 q).length) % 128), .bool true, .bool true, .int .u8 2, .int .u8 0, .bool false, .slice (some ⟨g8, 0, none⟩) 3 c8]) ∧
        BOf w w' b h 60 10000 (bstS (msgs3 q ++ [msg3 q]) []) ∧ KpB w5 w' ∧ Blk w' g8 cs8 5 ∧ (∀ (j : Nat) (u : Value), ((msg3 q).map (Value.int .u8))[j]? = some u → cs8[j]? = some u) := k5.next_new rfl (msg3 q) [] rfl (by show (msgs3 q).length < 127; rw [msgs3_len]; omega)
      refine hnx.mono ?_
      rintro e w6 ⟨g8, c8, cs8, rfl, k6, -, -, -⟩
      rw [msgs3_succ] at k6
      clear k5 hnx
      go_wp2
      exact ⟨⟨q + 1, by omega, by go_num, k6⟩, by simp [intOf]; omega⟩
    · have hqK : q = K := by omega
      subst hqK
      clear hlt hq
      have ho := hA.octs
      have hos : octs (bstS (msgs3 q) []).ss = octs (msgs3 q) := rfl
      have hls : (bstS (msgs3 q) []).ss.length = q := msgs3_len q
      rw [hos, hls] at ho
      have hc := putCode_ok (m := 60) (o := 10000) (ss := msgs3 q) (ns := []) (n := 3) (by omega) (by simp [msgs3_len]; omega) (by simp [octs] at *; omega)
      have hnJ : ¬ ((q : Int) < (q : Int)) := by omega
      have hwJ : IntKind.i64.wrap ((J : Int) + 127) = (J : Int) + 127 := wrapH _ (by omega)
      have hwJ2 : ((J : Int) + 127).tmod 128 = ((J : Int) + 127) % 128 := Int.tmod_eq_emod_of_nonneg (by omega)
      have hwJ3 : IntKind.u8.wrap (((J : Int) + 127) % 128) = ((J : Int) + 127) % 128 := by rw [wrap8m]; omega
      go_wp2_with fail
      refine hA.hold.mono ?_
      rintro e w4 ⟨rfl, rfl⟩
      go_wp2_with fail
      have hA2 := hA.below ((Below.refl _ _).alloc (Nat.le_refl _) (.cells #[.int .u8 99, .int .u8 1, .int .u8 2] 5 (0, 0)))
      refine (hA2.put_ok _ [99, 1, 2] (Oct.new w4 [99, 1, 2] 5 (0, 0) 3) (by decide) hc (bstS (msgs3 q) [[99, 1, 2]]) rfl).mono ?_
      rintro e w5 ⟨rfl, k5, -⟩
      clear hA hA2 hc ho
      have hdl : ((msgs3 q).drop J).length = q - J := by rw [List.length_drop, msgs3_len]
      have hans : ansB (bstS (msgs3 q) [[99, 1, 2]]) (((J : Int) + 127) % 128) false J = bstR J 0 ((msgs3 q).drop J) [[99, 1, 2]] := by
        unfold ansB
        rw [if_neg (by intro h; cases h), if_pos (by show 0 < ((msgs3 q).drop J).length; omega), show (((J : Int) + 127) % 128 + 1) % 128 = J from by omega]
        rfl
      have hA5 := k5.answer_yes (((J : Int) + 127) % 128) 0 0 0 false true false (.slice none 0 0) rfl (by omega) (by show knowsB 0 (msgs3 q).length _ = true; rw [msgs3_len]; simp only [knowsB, Bool.and_eq_true, decide_eq_true_eq]; omega) J (by show (((J : Int) + 127) % 128 - 0 + 1) % 128 = J; omega)
      rw [hans] at hA5
      clear hans k5
      go_wp2_with fail
      refine hA5.mono ?_
      rintro e w6 ⟨rfl, k6, -⟩
      clear hA5
      go_wp2_with fail
      have hrs : Calls Try.prog 44 #[.pointer (some ⟨b, 0, none⟩)] w6 fun e w' => e = .returned (.bool true) ∧ w' = w6 := k6.resends
      refine hrs.mono ?_
      rintro e w7 ⟨rfl, rfl⟩
      clear hrs
      go_wp2_with fail
      go_loopw [11] (fun i wr => ∃ (t : Nat) (a : Int), J ≤ t ∧ t ≤ q ∧ i = .int .i64 t ∧ ((t < q ∧ a = (t : Int) - J) ∨ (t = q ∧ a = -1)) ∧ BOf w wr b h 60 10000 (bstR J a ((msgs3 q).drop J) [[99, 1, 2]])) (fun i _ => 700 - (intOf i).toNat)
      case atStart => exact ⟨J, 0, Nat.le_refl _, by omega, rfl, .inl ⟨hJ1, by omega⟩, k6⟩
      case round =>
        clear k6
        obtain ⟨t, a, ht1, ht2, rfl, hta, hA⟩ := hrel
        by_cases hlt : t < q
        · have hlt2 : (t : Int) < (q : Int) := by omega
          obtain ⟨a', ha'⟩ : ∃ a' : Nat, a' = t - J := ⟨_, rfl⟩
          have haa : a = (a' : Int) := by omega
          subst haa
          have hget : ((msgs3 q).drop J)[a']? = some (msg3 t) := by rw [List.getElem?_drop, show J + a' = t from by omega]; exact msgs3_get q t hlt
          have hnx : Calls Try.prog 42 #[.pointer (some ⟨b, 0, none⟩)] _ fun e w' => ∃ (g8 c8 : Nat) (cs8 : List Value), e = .returned (.agg #[.int .u8 127, .int .u8 (((J : Int) + a') % 128), .bool true, .bool false, .int .u8 2, .int .u8 0, .bool false, .slice (some ⟨g8, 0, none⟩) 3 c8]) ∧
            BOf w w' b h 60 10000 (bstR J (if ((msgs3 q).drop J).length ≤ a' + 1 then -1 else (a' : Int) + 1) ((msgs3 q).drop J) [[99, 1, 2]]) ∧ KpB _ w' ∧ Blk w' g8 cs8 5 ∧ (∀ (j : Nat) (u : Value), ((msg3 t).map (Value.int .u8))[j]? = some u → cs8[j]? = some u) := hA.next_again a' rfl (msg3 t) hget
          rw [show ((J : Int) + a') % 128 = t from by omega] at hnx
          have HT := Lib.hid hta
          clear hta hA
          go_wp2_with fail
          refine hnx.mono ?_
          rintro e w8 ⟨g8, c8, cs8, rfl, k8, -, hB8, hc8⟩
          clear hnx
          have y0 := (hB8.alloc (.cells #[.int .u8 127, .int .u8 (t : Int), .bool true, .bool false, .int .u8 2, .int .u8 0, .bool false, .slice (some ⟨g8, 0, none⟩) 3 c8] 69)).cell 0 (hc8 0 (.int .u8 (t : Int)) rfl)
          have hU := Blk.new w8 [.int .u8 127, .int .u8 (t : Int), .bool true, .bool false, .int .u8 2, .int .u8 0, .bool false, .slice (some ⟨g8, 0, none⟩) 3 c8] 69
          have u1 := hU.cell 1 rfl
          have u3 := hU.cell 3 rfl
          have u4 := hU.cell 4 rfl
          have u7 := hU.cell 7 rfl
          have hwt : IntKind.i64.wrap (t : Int) = t := wrapH _ (by omega)
          have k9 := k8.below ((Below.refl _ _).alloc (Nat.le_refl _) (.cells #[.int .u8 127, .int .u8 (t : Int), .bool true, .bool false, .int .u8 2, .int .u8 0, .bool false, .slice (some ⟨g8, 0, none⟩) 3 c8] 69))
          clear hc8 hB8 k8 hU
          go_wp2
          refine ⟨?_, by simp [intOf]; omega⟩
          refine ⟨t + 1, _, by omega, by omega, by go_num, ?_, k9⟩
          rw [hdl]
          by_cases hl : q - J ≤ a' + 1
          · rw [if_pos hl]; exact .inr ⟨by omega, rfl⟩
          · rw [if_neg hl]; exact .inl ⟨by omega, by omega⟩
        · have htq : t = q := by omega
          subst htq
          have haa : a = -1 := by omega
          subst haa
          clear hlt hta
          have hnx : Calls Try.prog 42 #[.pointer (some ⟨b, 0, none⟩)] _ fun e w' => ∃ (g8 c8 : Nat) (cs8 : List Value), e = .returned (.agg #[.int .u8 127, .int .u8 (((J : Int) + ((msgs3 t).drop J).length) % 128), .bool true, .bool false, .int .u8 2, .int .u8 0, .bool false, .slice (some ⟨g8, 0, none⟩) 3 c8]) ∧
            BOf w w' b h 60 10000 (bstR J (-1) ((msgs3 t).drop J ++ [[99, 1, 2]]) []) ∧ KpB _ w' ∧ Blk w' g8 cs8 5 ∧ (∀ (j : Nat) (u : Value), (([99, 1, 2] : List Int).map (Value.int .u8))[j]? = some u → cs8[j]? = some u) := hA.next_new rfl [99, 1, 2] [] rfl (by show ((msgs3 t).drop J).length < 127; omega)
          rw [show ((J : Int) + ((msgs3 t).drop J).length) % 128 = t from by rw [hdl]; omega] at hnx
          clear hA
          go_wp2_with fail
          refine hnx.mono ?_
          rintro e w8 ⟨g8, c8, cs8, rfl, k8, -, hB8, hc8⟩
          clear hnx
          have y0 := (hB8.alloc (.cells #[.int .u8 127, .int .u8 (t : Int), .bool true, .bool false, .int .u8 2, .int .u8 0, .bool false, .slice (some ⟨g8, 0, none⟩) 3 c8] 69)).cell 0 (hc8 0 (.int .u8 99) rfl)
          have hU := Blk.new w8 [.int .u8 127, .int .u8 (t : Int), .bool true, .bool false, .int .u8 2, .int .u8 0, .bool false, .slice (some ⟨g8, 0, none⟩) 3 c8] 69
          have u1 := hU.cell 1 rfl
          have u3 := hU.cell 3 rfl
          have u7 := hU.cell 7 rfl
          have hwt : IntKind.i64.wrap (t : Int) = t := wrapH _ (by omega)
          have k9 := k8.below ((Below.refl _ _).alloc (Nat.le_refl _) (.cells #[.int .u8 127, .int .u8 (t : Int), .bool true, .bool false, .int .u8 2, .int .u8 0, .bool false, .slice (some ⟨g8, 0, none⟩) 3 c8] 69))
          have hrs : Calls Try.prog 44 #[.pointer (some ⟨b, 0, none⟩)] _ fun e w' => e = .returned (.bool false) ∧ w' = _ := k9.resends
          clear hc8 hB8 k8 hU
          go_wp2_with fail
          refine hrs.mono ?_
          rintro e w9 ⟨rfl, rfl⟩
          go_wp2
          go_ret
          exact ⟨rfl, k9.bel⟩
end Go.Proofs.Ytadheikcgdhcdaa
