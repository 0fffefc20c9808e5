/-
  Which method a setup has; the basic way that a way is; a status in a way's unit: the walk.
-/
import Derived.Test.YtadheikcgdhcdaaKi
namespace Go.Proofs.Ytadheikcgdhcdaa
open Go.RowKit
set_option linter.unusedVariables false
set_option linter.unusedSimpArgs false

set_option maxRecDepth 100000 in
set_option maxHeartbeats 8000000 in
theorem kinds_b (n0 st : Int) (w : World) (hn : 0 ≤ n0 ∧ n0 ≤ 255) (hst : 0 ≤ st ∧ st ≤ 255) :
    Calls Try.prog 14 #[.bool false, .int .u8 n0, .int .u8 st] w fun e w' => e = .returned (.bool true) ∧ Below w.heap.size w w' := by
  have hw1 : IntKind.i64.wrap n0 = n0 := wrapH _ (by omega)
  obtain ⟨K, hK⟩ : ∃ K : Nat, n0 % 10 = K := ⟨(n0 % 10).toNat, by omega⟩
  have hKt : n0.tmod 10 = (K : Int) := by rw [Int.tmod_eq_emod_of_nonneg (by omega)]; exact hK
  have hK1 : K ≤ 9 := by omega
  have HST := Lib.hid hst
  clear hK hn hst
  go_enter Try.func14, Try.ntmps14
  go_wp2_with fail
  refine (awake13_any _).mono ?_
  rintro e w0 ⟨rfl, hB0⟩
  go_wp2_with fail
  refine (usual_any _ _).mono ?_
  rintro e w0' ⟨rfl, hB0'⟩
  go_wp2_with fail
  refine (wnew_b w w0' (hB0.trans (hB0'.mono hB0.size)) _ _ _ _ _ _ _ _ _ _ _ _).mono ?_
  rintro e w1 ⟨b, h, rfl, hA, -⟩
  clear hB0 hB0'
  have i1 := inv_hold_b ⟨b, 0, none⟩
  have i2 := inv_next_b ⟨b, 0, none⟩
  have i3 := inv_fill_b ⟨b, 0, none⟩
  go_wp2_with fail
  go_loopw [8] (fun i wr => ∃ (q : Nat), q ≤ K ∧ i = .int .i64 q ∧ BOf w wr b h 16 600 (bstS (msgs3 q) [])) (fun i _ => 700 - (intOf i).toNat)
  case atStart => exact ⟨0, by omega, rfl, hA⟩
  case round =>
    clear hA
    obtain ⟨q, hq, rfl, hA⟩ := hrel
    by_cases hlt : q < K
    · have hlt2 : (q : Int) < (K : Int) := by omega
      have hu : IntKind.u8.wrap (q : Int) = q := by rw [wrap8m]; omega
      have hc := putCode_ok (m := 16) (o := 600) (ss := msgs3 q) (ns := []) (n := 3) (by omega) (by simp [msgs3_len]; omega) (by rw [msgs3_octs]; simp [octs]; omega)
      go_wp2_with fail
      refine hA.hold.mono ?_
      rintro e w4 ⟨rfl, rfl⟩
      go_wp2_with fail
      have hA2 := hA.below ((Below.refl _ _).alloc (Nat.le_refl _) (.cells #[.int .u8 (q : Int), .int .u8 1, .int .u8 2] 5 (0, 0)))
      refine (hA2.put_ok _ (msg3 q) (Oct.new w4 (msg3 q) 5 (0, 0) 3) (by decide) hc (bstS (msgs3 q) [msg3 q]) rfl).mono ?_
      rintro e w5 ⟨rfl, k5, -⟩
      clear hA hA2 hc
      go_wp2_with fail
      have hnx : Calls Try.prog 42 #[.pointer (some ⟨b, 0, none⟩)] w5 fun e w' => ∃ (g8 c8 : Nat) (cs8 : List Value), e = .returned (.agg #[.int .u8 127, .int .u8 ((0 + (msgs3 q).length) % 128), .bool true, .bool true, .int .u8 2, .int .u8 0, .bool false, .slice (some ⟨g8, 0, none⟩) 3 c8]) ∧
        BOf w w' b h 16 600 (bstS (msgs3 q ++ [msg3 q]) []) ∧ KpB w5 w' ∧ Blk w' g8 cs8 5 ∧ (∀ (j : Nat) (u : Value), ((msg3 q).map (Value.int .u8))[j]? = some u → cs8[j]? = some u) := k5.next_new rfl (msg3 q) [] rfl (by show (msgs3 q).length < 127; rw [msgs3_len]; omega)
      refine hnx.mono ?_
      rintro e w6 ⟨g8, c8, cs8, rfl, k6, -, -, -⟩
      rw [msgs3_succ] at k6
      clear k5 hnx
      go_wp2
      exact ⟨⟨q + 1, by omega, by go_num, k6⟩, by simp [intOf]; omega⟩
    · have hqK : q = K := by omega
      subst hqK
      have hge : ¬ ((q : Int) < (q : Int)) := by omega
      clear hlt hq
      obtain ⟨N, hN⟩ : ∃ N, (0 + ((msgs3 q).length : Int) - 1) % 128 = N := ⟨_, rfl⟩
      obtain ⟨sv, nv, hx, hR⟩ := hA.ex
      have hs1 : Calls Try.prog 64 #[.iface 64 (.pointer (some ⟨b, 0, none⟩)), .int .u8 st] _ fun e w' => e = .returned (.agg #[.int .u8 127, .int .u8 ((0 + ((msgs3 q).length : Int) - 1) % 128), .bool true, .bool true, .int .u8 1, .int .u8 st, .bool false, .slice none 0 0]) ∧ Below _ _ w' := status_b hx st
      rw [hN] at hs1
      clear hx hR
      go_wp2_with fail
      refine hs1.mono ?_
      rintro e w5 ⟨rfl, hb5⟩
      have hA5 := hA.below hb5
      have hU5 := Blk.new w5 [.int .u8 127, .int .u8 N, .bool true, .bool true, .int .u8 1, .int .u8 st, .bool false, .slice none 0 0] 69
      have hA5' := hA5.below ((Below.refl _ _).alloc (Nat.le_refl _) (.cells #[.int .u8 127, .int .u8 N, .bool true, .bool true, .int .u8 1, .int .u8 st, .bool false, .slice none 0 0] 69))
      have hs2 : Calls Try.prog 39 #[.pointer (some ⟨b, 0, none⟩)] _ fun e w' => e = .returned (.agg #[.int .u8 127, .int .u8 ((0 + ((msgs3 q).length : Int) - 1) % 128), .bool true, .bool true, .int .u8 0, .int .u8 0, .bool false, .slice none 0 0]) ∧ BOf w w' b h 16 600 (bstS (msgs3 q) []) ∧ KpB _ w' := hA5'.fill
      rw [hN] at hs2
      clear hs1 hA hA5 hA5' hb5
      go_wp2_with fail
      refine hs2.mono ?_
      rintro e w6 ⟨rfl, k6, hK6⟩
      have hU6 := hK6.2 _ _ 69 (by decide) (by decide) (by decide) hU5
      have hb6 : Below w6.heap.size w6 (w6.alloc (.cells #[.int .u8 127, .int .u8 N, .bool true, .bool true, .int .u8 1, .int .u8 st, .bool false, .slice none 0 0] 69)) := (Below.refl _ _).alloc (Nat.le_refl _) _
      have hU6' := hU6.below hb6
      have hV6 := Blk.new w6 [.int .u8 127, .int .u8 N, .bool true, .bool true, .int .u8 1, .int .u8 st, .bool false, .slice none 0 0] 69
      have k6' := k6.below hb6
      clear hs2 hK6 hU6 hU5 hb6 k6
      go_upto_region 16 with fail
      have W6b := Lib.hid k6'.bel
      have htk := k6'.taken
      generalize hW6 : w6.alloc (.cells #[.int .u8 127, .int .u8 N, .bool true, .bool true, .int .u8 1, .int .u8 st, .bool false, .slice none 0 0] 69) = W6 at *
      have on : ∀ W : World, Oct W (.slice none 0 0) [] := fun W => ⟨none, 0, rfl, fun j u h => by cases h⟩
      have c0 := hU6'.cell 0 rfl
      have c1 := hU6'.cell 1 rfl
      have c2 := hU6'.cell 2 rfl
      have c3 := hU6'.cell 3 rfl
      have c4 := hU6'.cell 4 rfl
      have c5 := hU6'.cell 5 rfl
      have c6 := hU6'.cell 6 rfl
      have c7 := hU6'.cell 7 rfl
      have d0 := hV6.cell 0 rfl
      have d1 := hV6.cell 1 rfl
      have d2 := hV6.cell 2 rfl
      have d3 := hV6.cell 3 rfl
      have d4 := hV6.cell 4 rfl
      have d5 := hV6.cell 5 rfl
      have d6 := hV6.cell 6 rfl
      have d7 := hV6.cell 7 rfl
      go_wp2_with fail
      refine (name_basic b W6).mono ?_
      rintro e w9 ⟨rfl, rfl⟩
      go_wp2_with fail
      refine (cyclic_basic b W6).mono ?_
      rintro e w9 ⟨rfl, rfl⟩
      go_wp2_with fail
      refine (basic_is b W6).mono ?_
      rintro e w9 ⟨rfl, rfl⟩
      go_wp2_with fail
      refine htk.mono ?_
      rintro e w9 ⟨rfl, rfl⟩
      have e127 : ((bstS (msgs3 q) []).last == 127) = true := by rfl
      go_wp2_with fail
      refine (same_true 127 N true true 1 st false _ _ [] _ (on _) (on _) (by simp)).mono ?_
      rintro e w10 ⟨rfl, hb10⟩
      go_wp2_with fail
      refine (name_nil _).mono ?_
      rintro e w11 ⟨rfl, rfl⟩
      go_wp2_with fail
      refine (cyclic_nil _).mono ?_
      rintro e w11 ⟨rfl, rfl⟩
      go_wp2_with fail
      refine (status_nil st _).mono ?_
      rintro e w12 ⟨rfl, hb12⟩
      go_wp2_with fail
      refine (same_true 0 0 false false 0 0 false _ _ [] _ (on _) (on _) (by simp)).mono ?_
      rintro e w13 ⟨rfl, hb13⟩
      go_wp2
      go_ret
      exact ⟨rfl, bthen (bthen (bthen W6b.out hb10) hb12) hb13⟩
theorem COf.fill {W w : World} {b h : Nat} {m o : Int} {s : CSt} (k : COf W w b h m o s) :
    Calls Try.prog 60 #[.pointer (some ⟨b, 0, none⟩)] w fun e w' => e = .returned (.agg #[.int .u8 s.last, .int .u8 ((s.f + s.ss.length - 1) % 128), .bool true, .bool true, .int .u8 0, .int .u8 0, .bool false, .slice none 0 0]) ∧ COf W w' b h m o s ∧ KpC w w' := by
  obtain ⟨sv, nv, hk, hR⟩ := k.ex
  refine hk.fill.mono ?_
  rintro e w' ⟨rfl, hb⟩
  exact ⟨rfl, k.below hb, .below hb⟩
set_option maxRecDepth 100000 in
set_option maxHeartbeats 8000000 in
theorem kinds_c (n0 st : Int) (w : World) (hn : 0 ≤ n0 ∧ n0 ≤ 255) (hst : 0 ≤ st ∧ st ≤ 255) :
    Calls Try.prog 14 #[.bool true, .int .u8 n0, .int .u8 st] w fun e w' => e = .returned (.bool true) ∧ Below w.heap.size w w' := by
  have hw1 : IntKind.i64.wrap n0 = n0 := wrapH _ (by omega)
  obtain ⟨K, hK⟩ : ∃ K : Nat, n0 % 10 = K := ⟨(n0 % 10).toNat, by omega⟩
  have hKt : n0.tmod 10 = (K : Int) := by rw [Int.tmod_eq_emod_of_nonneg (by omega)]; exact hK
  have hK1 : K ≤ 9 := by omega
  have HST := Lib.hid hst
  clear hK hn hst
  go_enter Try.func14, Try.ntmps14
  go_wp2_with fail
  refine (awake13_any _).mono ?_
  rintro e w0 ⟨rfl, hB0⟩
  go_wp2_with fail
  refine (usual_any _ _).mono ?_
  rintro e w0' ⟨rfl, hB0'⟩
  go_wp2_with fail
  refine (wnew_c w w0' (hB0.trans (hB0'.mono hB0.size)) _ _ _ _ _ _ _ _ _ _ _ _ (by decide) (by decide)).mono ?_
  rintro e w1 ⟨b, h, rfl, hA, -⟩
  clear hB0 hB0'
  have i1 := inv_hold_c ⟨b, 0, none⟩
  have i2 := inv_next_c ⟨b, 0, none⟩
  have i3 := inv_fill_c ⟨b, 0, none⟩
  go_wp2_with fail
  go_loopw [8] (fun i wr => ∃ (q : Nat), q ≤ K ∧ i = .int .i64 q ∧ ((q ≤ 8 ∧ COf w wr b h 16 600 (cstF 8 300 0 false 0 (msgs3 q) [])) ∨ (q = 9 ∧ COf w wr b h 16 600 (cstF 8 300 1 true 0 (msgs3 8) [msg3 8])))) (fun i _ => 700 - (intOf i).toNat)
  case atStart => exact ⟨0, by omega, rfl, .inl ⟨by omega, hA⟩⟩
  case round =>
    clear hA
    obtain ⟨q, hq, rfl, hQ⟩ := hrel
    by_cases hlt : q < K
    · have hlt2 : (q : Int) < (K : Int) := by omega
      have hq8 : q ≤ 8 := by omega
      have hA : COf w wr b h 16 600 (cstF 8 300 0 false 0 (msgs3 q) []) := by
        rcases hQ with ⟨_, h⟩ | ⟨h, _⟩
        · exact h
        · omega
      clear hQ
      have hu : IntKind.u8.wrap (q : Int) = q := by rw [wrap8m]; omega
      have hc := putCode_ok (m := 16) (o := 600) (ss := msgs3 q) (ns := []) (n := 3) (by omega) (by simp [msgs3_len]; omega) (by rw [msgs3_octs]; simp [octs]; omega)
      go_wp2_with fail
      refine hA.hold.mono ?_
      rintro e w4 ⟨rfl, rfl⟩
      go_wp2_with fail
      have hA2 := hA.below ((Below.refl _ _).alloc (Nat.le_refl _) (.cells #[.int .u8 (q : Int), .int .u8 1, .int .u8 2] 5 (0, 0)))
      refine (hA2.put_ok _ (msg3 q) (Oct.new w4 (msg3 q) 5 (0, 0) 3) (by decide) hc (cstF 8 300 0 false 0 (msgs3 q) [msg3 q]) rfl).mono ?_
      rintro e w5 ⟨rfl, k5, -⟩
      clear hA hA2 hc
      by_cases hq7 : q < 8
      · have hfit : fitsB (cstF 8 300 0 false 0 (msgs3 q) [msg3 q]) = true := by
          simp only [fitsB, cstF, msgs3_len, msgs3_octs, Bool.or_eq_true, Bool.and_eq_true, decide_eq_true_eq]
          right
          refine ⟨by omega, ?_⟩
          show 3 * (q : Int) + 3 ≤ 300
          omega
        go_wp2_with fail
        have hnx : Calls Try.prog 48 #[.pointer (some ⟨b, 0, none⟩)] w5 fun e w' => ∃ (g8 c8 : Nat) (cs8 : List Value), e = .returned (.agg #[.int .u8 127, .int .u8 ((0 + (msgs3 q).length) % 128), .bool true, .bool true, .int .u8 2, .int .u8 0, .bool false, .slice (some ⟨g8, 0, none⟩) 3 c8]) ∧
          COf w w' b h 16 600 (cstF 8 300 0 false 0 (msgs3 q ++ [msg3 q]) []) ∧ KpC w5 w' ∧ Blk w' g8 cs8 5 ∧ (∀ (j : Nat) (u : Value), ((msg3 q).map (Value.int .u8))[j]? = some u → cs8[j]? = some u) := k5.next_new rfl (msg3 q) [] rfl hfit (by show (msgs3 q).length < 127; rw [msgs3_len]; omega)
        refine hnx.mono ?_
        rintro e w6 ⟨g8, c8, cs8, rfl, k6, -, -, -⟩
        rw [msgs3_succ] at k6
        clear k5 hnx hfit
        go_wp2
        exact ⟨⟨q + 1, by omega, by go_num, .inl ⟨by omega, k6⟩⟩, by simp [intOf]; omega⟩
      · have hq9 : q = 8 := by omega
        subst hq9
        go_wp2_with fail
        have hnx : Calls Try.prog 48 #[.pointer (some ⟨b, 0, none⟩)] w5 fun e w' => ∃ (g8 c8 : Nat) (cs8 : List Value), e = .returned (.agg #[.int .u8 127, .int .u8 ((0 + ((0 : Nat) : Int)) % 128), .bool true, .bool true, .int .u8 2, .int .u8 0, .bool false, .slice (some ⟨g8, 0, none⟩) 3 c8]) ∧
          COf w w' b h 16 600 (cstF 8 300 1 true 0 (msgs3 8) [msg3 8]) ∧ KpC w5 w' ∧ Blk w' g8 cs8 5 ∧ (∀ (j : Nat) (u : Value), ((msg3 0).map (Value.int .u8))[j]? = some u → cs8[j]? = some u) := k5.next_again (.inr (by decide)) (msg3 0) (by decide)
        refine hnx.mono ?_
        rintro e w6 ⟨g8, c8, cs8, rfl, k6, -, -, -⟩
        clear k5 hnx
        go_wp2
        exact ⟨⟨9, by omega, by go_num, .inr ⟨rfl, k6⟩⟩, by simp [intOf]⟩
    · have hqK : q = K := by omega
      subst hqK
      have hge : ¬ ((q : Int) < (q : Int)) := by omega
      clear hlt hq
      obtain ⟨pl, fo, ss, ns, hA⟩ : ∃ pl fo ss ns, COf w wr b h 16 600 (cstF 8 300 pl fo 0 ss ns) := by
        rcases hQ with ⟨_, h⟩ | ⟨_, h⟩
        · exact ⟨_, _, _, _, h⟩
        · exact ⟨_, _, _, _, h⟩
      clear hQ
      obtain ⟨N, hN⟩ : ∃ N, (0 + (ss.length : Int) - 1) % 128 = N := ⟨_, rfl⟩
      obtain ⟨sv, nv, hx, hR⟩ := hA.ex
      have hs1 : Calls Try.prog 64 #[.iface 75 (.pointer (some ⟨b, 0, none⟩)), .int .u8 st] _ fun e w' => e = .returned (.agg #[.int .u8 127, .int .u8 ((0 + (ss.length : Int) - 1) % 128), .bool true, .bool true, .int .u8 1, .int .u8 st, .bool false, .slice none 0 0]) ∧ Below _ _ w' := status_c hx st
      rw [hN] at hs1
      clear hx hR
      go_wp2_with fail
      refine hs1.mono ?_
      rintro e w5 ⟨rfl, hb5⟩
      have hA5 := hA.below hb5
      have hU5 := Blk.new w5 [.int .u8 127, .int .u8 N, .bool true, .bool true, .int .u8 1, .int .u8 st, .bool false, .slice none 0 0] 69
      have hA5' := hA5.below ((Below.refl _ _).alloc (Nat.le_refl _) (.cells #[.int .u8 127, .int .u8 N, .bool true, .bool true, .int .u8 1, .int .u8 st, .bool false, .slice none 0 0] 69))
      have hs2 : Calls Try.prog 60 #[.pointer (some ⟨b, 0, none⟩)] _ fun e w' => e = .returned (.agg #[.int .u8 127, .int .u8 ((0 + (ss.length : Int) - 1) % 128), .bool true, .bool true, .int .u8 0, .int .u8 0, .bool false, .slice none 0 0]) ∧ COf w w' b h 16 600 (cstF 8 300 pl fo 0 ss ns) ∧ KpC _ w' := hA5'.fill
      rw [hN] at hs2
      clear hs1 hA hA5 hA5' hb5
      go_wp2_with fail
      refine hs2.mono ?_
      rintro e w6 ⟨rfl, k6, hK6⟩
      have hU6 := hK6.2 _ _ 69 (by decide) (by decide) (by decide) hU5
      have hb6 : Below w6.heap.size w6 (w6.alloc (.cells #[.int .u8 127, .int .u8 N, .bool true, .bool true, .int .u8 1, .int .u8 st, .bool false, .slice none 0 0] 69)) := (Below.refl _ _).alloc (Nat.le_refl _) _
      have hU6' := hU6.below hb6
      have hV6 := Blk.new w6 [.int .u8 127, .int .u8 N, .bool true, .bool true, .int .u8 1, .int .u8 st, .bool false, .slice none 0 0] 69
      have k6' := k6.below hb6
      clear hs2 hK6 hU6 hU5 hb6 k6
      go_upto_region 16 with fail
      have W6b := Lib.hid k6'.bel
      generalize hW6 : w6.alloc (.cells #[.int .u8 127, .int .u8 N, .bool true, .bool true, .int .u8 1, .int .u8 st, .bool false, .slice none 0 0] 69) = W6 at *
      have on : ∀ W : World, Oct W (.slice none 0 0) [] := fun W => ⟨none, 0, rfl, fun j u h => by cases h⟩
      have c0 := hU6'.cell 0 rfl
      have c1 := hU6'.cell 1 rfl
      have c2 := hU6'.cell 2 rfl
      have c3 := hU6'.cell 3 rfl
      have c4 := hU6'.cell 4 rfl
      have c5 := hU6'.cell 5 rfl
      have c6 := hU6'.cell 6 rfl
      have c7 := hU6'.cell 7 rfl
      have d0 := hV6.cell 0 rfl
      have d1 := hV6.cell 1 rfl
      have d2 := hV6.cell 2 rfl
      have d3 := hV6.cell 3 rfl
      have d4 := hV6.cell 4 rfl
      have d5 := hV6.cell 5 rfl
      have d6 := hV6.cell 6 rfl
      have d7 := hV6.cell 7 rfl
      go_wp2_with fail
      refine (name_cyclic b W6).mono ?_
      rintro e w9 ⟨rfl, rfl⟩
      go_wp2_with fail
      refine (cyclic_cyclic b W6).mono ?_
      rintro e w9 ⟨rfl, rfl⟩
      go_wp2_with fail
      refine (same_true 127 N true true 1 st false _ _ [] _ (on _) (on _) (by simp)).mono ?_
      rintro e w10 ⟨rfl, hb10⟩
      go_wp2_with fail
      refine (name_nil _).mono ?_
      rintro e w11 ⟨rfl, rfl⟩
      go_wp2_with fail
      refine (cyclic_nil _).mono ?_
      rintro e w11 ⟨rfl, rfl⟩
      go_wp2_with fail
      refine (status_nil st _).mono ?_
      rintro e w12 ⟨rfl, hb12⟩
      go_wp2_with fail
      refine (same_true 0 0 false false 0 0 false _ _ [] _ (on _) (on _) (by simp)).mono ?_
      rintro e w13 ⟨rfl, hb13⟩
      go_wp2
      go_ret
      exact ⟨rfl, bthen (bthen (bthen W6b.out hb10) hb12) hb13⟩

theorem kinds_row (c : Bool) (n0 st : Int) (w : World) (hn : 0 ≤ n0 ∧ n0 ≤ 255) (hst : 0 ≤ st ∧ st ≤ 255) :
    Calls Try.prog 14 #[.bool c, .int .u8 n0, .int .u8 st] w fun e w' => e = .returned (.bool true) ∧ Below w.heap.size w w' := by
  cases c
  · exact kinds_b n0 st w hn hst
  · exact kinds_c n0 st w hn hst
end Go.Proofs.Ytadheikcgdhcdaa
