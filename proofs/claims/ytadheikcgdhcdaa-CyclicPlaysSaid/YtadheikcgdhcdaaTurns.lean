/-
  Numbers go round, again and again: the walk.
-/
import Derived.Test.YtadheikcgdhcdaaHxW
namespace Go.Proofs.Ytadheikcgdhcdaa
open Go.RowKit
set_option linter.unusedVariables false
set_option linter.unusedSimpArgs false

theorem octs_hx {w : World} {h : Nat} {m o f : Int} {sv nv : Value} {ss ns : List (List Int)} (k : HX w h m o f sv nv ss ns) : 0 ≤ octs ss ∧ octs ss ≤ 300 * ss.length ∧ 0 ≤ octs ns ∧ octs ns ≤ 300 * ns.length := by
  have h1 := octs_bd ss (fun x hx => by have := k.len x (.inl hx); omega)
  have h2 := octs_bd ns (fun x hx => by have := k.len x (.inr hx); omega)
  exact ⟨h1.1, h1.2, h2.1, h2.2⟩
theorem HOf.octs {W w : World} {h : Nat} {m o f : Int} {ss ns : List (List Int)} (k : HOf W w h m o f ss ns) : 0 ≤ octs ss ∧ octs ss ≤ 300 * ss.length ∧ 0 ≤ octs ns ∧ octs ns ≤ 300 * ns.length := by
  obtain ⟨sv, nv, hx, hR⟩ := k.ex
  exact octs_hx hx
theorem putCode_ok {m o : Int} {ss ns : List (List Int)} {n : Nat} (h1 : 3 ≤ n ∧ n ≤ 273) (h2 : (ss.length : Int) + ns.length < m) (h3 : octs ss + octs ns + n ≤ o) : putCode m o ss ns n = 0 := by
  unfold putCode
  rw [if_neg (by omega), if_neg (by omega), if_neg (by omega)]
theorem wrap8m (n : Int) : IntKind.u8.wrap n = n % 256 := by simp [IntKind.wrap, IntKind.bits, IntKind.signed]

theorem mod_succ {q k r : Nat} (h : q % k = r) (hr : r < k) : (r + 1 = k → (q + 1) % k = 0) ∧ (¬ r + 1 = k → (q + 1) % k = r + 1) := by
  have : (q + 1) % k = (r + 1) % k := by rw [← Nat.mod_add_mod, h]
  rw [this]
  exact ⟨fun e => by rw [e, Nat.mod_self], fun e => Nat.mod_eq_of_lt (by omega)⟩

set_option maxRecDepth 100000 in
set_option maxHeartbeats 8000000 in
theorem turns_row (n k0 : Int) (w : World) (hn : 0 ≤ n ∧ n ≤ 65535) (hk0 : 0 ≤ k0 ∧ k0 ≤ 255) :
    Calls Try.prog 5 #[.int .u16 n, .int .u8 k0] w fun e w' => e = .returned (.bool true) ∧ Below w.heap.size w w' := by
  have hw1 : IntKind.i64.wrap k0 = k0 := wrapH _ (by omega)
  have hw2 : IntKind.i64.wrap n = n := wrapH _ (by omega)
  have hw3 : IntKind.i64.wrap (1 + k0 % 127) = 1 + k0 % 127 := wrapH _ (by omega)
  go_enter Try.func5, Try.ntmps5
  go_wp2_with fail
  refine (awake10_any _).mono ?_
  rintro e w0 ⟨rfl, hB0⟩
  go_wp2_with fail
  refine (HOf.new w w0 hB0 200 1048576).mono ?_
  rintro e w1 ⟨h, rfl, hA, -⟩
  clear hB0
  go_wp2_with fail
  obtain ⟨K, hK⟩ : ∃ K : Nat, n % 600 = K := ⟨(n % 600).toNat, by omega⟩
  have hK6 : K < 600 := by omega
  obtain ⟨k, hk⟩ : ∃ k : Nat, 1 + k0 % 127 = k := ⟨(1 + k0 % 127).toNat, by omega⟩
  have hk1 : 1 ≤ k ∧ k ≤ 127 := by omega
  rw [hk]
  have hKt : n.tmod 600 = (K : Int) := by rw [Int.tmod_eq_emod_of_nonneg (by omega)]; exact hK
  clear hK hk hw3 hw1 hn hk0
  go_loopw [7] (fun i wr => ∃ (q r : Nat) (ss : List (List Int)), q ≤ K ∧ i = .int .i64 q ∧ q % k = r ∧ ss.length = r ∧ HOf w wr h 200 1048576 (((q : Int) - r) % 128) ss []) (fun i _ => 700 - (intOf i).toNat)
  case atStart => exact ⟨0, 0, [], by omega, rfl, Nat.zero_mod _, rfl, hA⟩
  case round =>
    clear hA
    obtain ⟨q, r, ss, hq, rfl, hr, hss, hA⟩ := hrel
    have hrk : r < k := by rw [← hr]; exact Nat.mod_lt _ (by omega)
    have HR := Lib.hid hr
    clear hr
    by_cases hlt : q < K
    · have hlt2 : (q : Int) < (K : Int) := by omega
      go_wp2_with fail
      have ho := hA.octs
      have hc := putCode_ok (m := 200) (o := 1048576) (ss := ss) (ns := []) (n := 3) (by omega) (by simp; omega) (by simp [octs] at *; omega)
      have hA2 := hA.below ((Below.refl _ _).alloc (Nat.le_refl _) (.cells #[.int .u8 ((q : Int) % 256), .int .u8 ((q : Int) / 256), .int .u8 0] 5 (0, 0)))
      refine (hA2.put _ [(q : Int) % 256, (q : Int) / 256, 0] (Oct.new wr [(q : Int) % 256, (q : Int) / 256, 0] 5 (0, 0) 3) (by decide)).mono ?_
      rw [show ([(q : Int) % 256, (q : Int) / 256, 0] : List Int).length = 3 from rfl, hc, if_pos rfl, List.nil_append]
      rintro e w5 ⟨rfl, k5, -⟩
      clear hA hA2 hc ho
      go_wp2_with fail
      refine (k5.send_ok (by omega)).mono ?_
      have ha : ((((q : Int) - r) % 128 + ss.length) % 128) = (q : Int) % 128 := by omega
      rw [ha]
      rintro e w6 ⟨g8, c8, cs8, rfl, k6, -, hB8, hc8⟩
      have y0 := hB8.cell 0 (hc8 0 _ rfl)
      have hq1 : (q : Int) % 128 ≤ 127 := by omega
      have hq2 : 0 ≤ (q : Int) % 128 := by omega
      have hq3 : IntKind.i64.wrap ((q : Int) % 128) = (q : Int) % 128 := wrapH _ (by omega)
      have hq4 : IntKind.u8.wrap (q : Int) = (q : Int) % 256 := wrap8m _
      clear hc8 hB8 k5 ha
      go_wp2_with fail
      refine k6.sent.mono ?_
      rintro e w7 ⟨rfl, rfl⟩
      have hl6 : (ss ++ [[(q : Int) % 256, (q : Int) / 256, 0]]).length = r + 1 := by simp [hss]
      rw [hl6]
      by_cases hrk1 : r + 1 = k
      · have hz : (((r + 1 : Nat) : Int) == (k : Int)) = true := by simp; omega
        go_wp2_with fail
        refine (k6.free_yes ((q : Int) % 128) ⟨by omega, by omega⟩ (by rw [hl6]; simp only [knowsB, Bool.and_eq_true, decide_eq_true_eq]; omega) k (by omega)).mono ?_
        rintro e w8 ⟨rfl, k8, -⟩
        have hd : (ss ++ [[(q : Int) % 256, (q : Int) / 256, 0]]).drop k = [] := List.drop_eq_nil_of_le (by omega)
        rw [hd, show ((q : Int) % 128 + 1) % 128 = (((q + 1 : Nat) : Int) - (0 : Nat)) % 128 from by omega] at k8
        clear k6
        go_wp2
        exact ⟨⟨q + 1, 0, [], by omega, by go_num, (mod_succ HR.out hrk).1 hrk1, rfl, k8⟩, by simp [intOf]; omega⟩
      · have hz : (((r + 1 : Nat) : Int) == (k : Int)) = false := by simp; omega
        go_wp2
        rw [show ((q : Int) - r) % 128 = (((q + 1 : Nat) : Int) - ((r + 1 : Nat) : Int)) % 128 from by congr 1; omega] at k6
        exact ⟨⟨q + 1, r + 1, _, by omega, by go_num, (mod_succ HR.out hrk).2 hrk1, hl6, k6⟩, by simp [intOf]; omega⟩
    · have hqK : q = K := by omega
      subst hqK
      have hge : ¬ ((q : Int) < (q : Int)) := by omega
      have hT : (q : Int).tmod (k : Int) = (r : Int) := by
        rw [Int.tmod_eq_emod_of_nonneg (by omega)]
        have := HR.out
        rw [← this]; rfl
      have hs := fun n => (hA.drewN n).sent
      rw [hss] at hs
      clear hlt
      go_upto_region 17 with fail
      go_quiet ((go_at_call 24; exact Calls.quiet_of_same (hs _)))
      go_wp2
      go_ret
      exact ⟨rfl, below_drewN hA.bel _⟩
end Go.Proofs.Ytadheikcgdhcdaa
