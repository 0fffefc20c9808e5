/-
  RingWithin and RingRounds: which numbers come up; so many steps on and back.
-/
import Derived.Deep.AppendLies
import Derived.Test.YtailojidffehnaaBtw
namespace Go.Proofs.Ytailojidffehnaa
open Go.RowKit
set_option linter.unusedVariables false
set_option linter.unusedSimpArgs false

theorem wrapR (n : Int) (h : -100000 ≤ n ∧ n ≤ 100000) : IntKind.i64.wrap n = n := by
  simp [IntKind.wrap, IntKind.bits, IntKind.signed]
  split <;> omega
theorem own_at {w : World} {base : Nat} {e : TypeId} {n : Nat} {v : Value} {xs : List Value} (h : w.ownsRow base e 1 v n xs) (u : Nat) (x : Value) (hu : xs[u]? = some x) {g cap : Nat} (hv : v = .slice (some ⟨g, 0, none⟩) n cap) : w.cell? ⟨g, u, none⟩ = some x := by
  have hl := h.1
  rcases h.2 with ⟨h1, h2⟩ | ⟨g', cap', cur, h1, hb, hh, h2, h3, h4, h5⟩
  · rw [h1] at hv; cases hv
  · rw [h1] at hv
    obtain rfl : g' = g := by simp at hv; exact hv.1
    rw [← h5, List.getElem?_take] at hu
    split at hu
    · simp [World.cell?, hh]
      simpa using hu
    · cases hu

set_option maxRecDepth 100000 in
theorem ringRounds_row (n k : Int) (w : World) (hn : 0 ≤ n ∧ n ≤ 255) (hk : 0 ≤ k ∧ k ≤ 65535) :
    Calls Try.prog 6 #[.int .u8 n, .int .u16 k] w fun e w' => e = .returned (.bool true) ∧ Below w.heap.size w w' := by
  obtain ⟨K, hK⟩ : ∃ K : Nat, k % 300 = K := ⟨(k % 300).toNat, by omega⟩
  have hK3 : K < 300 := by omega
  have hwk : IntKind.i64.wrap (K : Int) = K := wrapR _ (by omega)
  have hwn : IntKind.i64.wrap n = n := wrapR _ (by omega)
  have hws : IntKind.i64.wrap (n + K) = n + K := wrapR _ (by omega)
  have hp : Calls Try.prog 20 #[.int .u8 n] w fun e w' => e = .returned (.int .u8 ((n + 127) % 128)) ∧ w = w' := prev_any n w
  have hg : Calls Try.prog 15 #[.int .u8 n, .int .u8 ((n + K) % 128)] w fun e w' => e = .returned (.int .i64 ((K : Int) % 128)) ∧ w = w' := (gap_any n _ w).mono fun e w' ⟨h1, h2⟩ => ⟨by rw [h1]; unfold gap; congr 2; omega, h2⟩
  have hgl : (btw n ((n + 127) % 128)).length = 128 := by rw [btw_len]; unfold gap; omega
  have hb := between_any n ((n + 127) % 128) hn w
  rw [hgl] at hb
  have htm : Int.tmod (K : Int) 128 = (K : Int) % 128 := Int.tmod_eq_emod_of_nonneg (by omega)
  have hkt : Int.tmod k 300 = (K : Int) := by rw [Int.tmod_eq_emod_of_nonneg (by omega), hK]
  have h64 : wrap64 (K : Int) = K := by unfold wrap64; omega
  clear hk hgl hK
  go_enter Try.func6, Try.ntmps6
  go_wp2_with (go_at_call 16; refine (awake_any _).mono ?_; rintro e w' ⟨rfl, rfl⟩)
  go_loop [5, 6] (fun a i => ∃ j : Nat, j ≤ K ∧ i = .int .i64 j ∧ a = .int .u8 ((n + j) % 128)) (fun _ i => 300 - (intOf i).toNat)
  case atStart => exact ⟨0, by omega, rfl, by simp⟩
  case round =>
    obtain ⟨j, hj, rfl, rfl⟩ := hrel
    by_cases hlt : j < K
    · have hlt2 : (j : Int) < (K : Int) := by omega
      have hn1 : ((n + j) % 128 + 1) % 128 = (n + ((j + 1 : Nat) : Int)) % 128 := by omega
      go_wp2_with (go_at_call 19; refine (next_any _ _).mono ?_; rw [hn1]; rintro e w' ⟨rfl, rfl⟩)
      exact ⟨⟨j + 1, by omega, by go_num, rfl⟩, by simp [intOf]; omega⟩
    · have hjK : j = K := by omega
      subst hjK
      clear hlt
      go_wp2
      go_loop [7, 8] (fun b i => ∃ q : Nat, q ≤ j ∧ i = .int .i64 q ∧ b = .int .u8 ((n + j - q) % 128)) (fun _ i => 300 - (intOf i).toNat)
      case atStart => exact ⟨0, by omega, rfl, by simp⟩
      case round =>
        obtain ⟨q, hq, rfl, rfl⟩ := hrel
        by_cases hlt : q < j
        · have hlt2 : (q : Int) < (j : Int) := by omega
          have hn1 : ((n + j - q) % 128 + 127) % 128 = (n + j - ((q + 1 : Nat) : Int)) % 128 := by omega
          go_wp2_with (go_at_call 20; refine (prev_any _ _).mono ?_; rw [hn1]; rintro e w' ⟨rfl, rfl⟩)
          exact ⟨⟨q + 1, by omega, by go_num, rfl⟩, by simp [intOf]; omega⟩
        · have hqj : q = j := by omega
          subst hqj
          rw [show n + (q : Int) - q = n from by omega]
          go_wp2_with (first | (go_at_call 15; refine hg.mono ?_; rintro e w' ⟨rfl, rfl⟩) | (go_at_call 18; refine (at_any _ _).mono ?_; rintro e w' ⟨rfl, rfl⟩) | (go_at_call 20; refine hp.mono ?_; rintro e w' ⟨rfl, rfl⟩))
          refine hb.mono ?_
          rintro e w1 ⟨v, rfl, hO, hB⟩
          obtain ⟨g, cap, rfl, _, _⟩ := hO.form (by decide)
          go_wp2
          go_ret
          exact ⟨rfl, hB⟩

theorem gap_step (a : Int) (i : Nat) (h : i < 128) : gap a ((a + i) % 128) = i := by unfold gap; omega
theorem gap_hit (a n : Int) (i : Nat) (h : i < 128) : ((a + i) % 128 = n % 128) ↔ gap a n = i := by unfold gap; omega

set_option maxRecDepth 100000 in
theorem ringWithin_row (n a b : Int) (w : World) (hn : 0 ≤ n ∧ n ≤ 255) (ha : 0 ≤ a ∧ a ≤ 255) (hb : 0 ≤ b ∧ b ≤ 255) :
    Calls Try.prog 5 #[.int .u8 n, .int .u8 a, .int .u8 b] w fun e w' => e = .returned (.bool true) ∧ Below w.heap.size w w' := by
  have hG := gap_range a b
  obtain ⟨G, hGe⟩ : ∃ G : Nat, gap a b = G := ⟨(gap a b).toNat, by omega⟩
  have hL : (btw a b).length = G + 1 := by rw [btw_len, hGe]; simp
  have hX : ∀ k, k < G + 1 → ((btw a b).map (Value.int .u8))[k]? = some (.int .u8 ((a + k) % 128)) := fun k hk => by rw [List.getElem?_map, btw_at a b k (by rw [hGe]; simpa using hk)]; rfl
  have hB := between_any a b ha w
  rw [hL] at hB
  generalize (btw a b).map (Value.int .u8) = xs at *
  have HX := Lib.hid hX
  clear hX hL
  have hwi : within n a b = decide (gap a n < ((G + 1 : Nat) : Int)) := by unfold within; rw [hGe]; congr 1; simp; omega
  have hr : ∀ w, Calls Try.prog 17 #[.int .u8 a, .int .u8 b] w fun e w' => e = .returned (.int .i64 (G : Int)) ∧ w = w' := fun w => (refGap_any a b ha.1 hb.1 w).mono fun e w' ⟨h1, h2⟩ => ⟨by rw [h1, hGe], h2⟩
  have hG128 : G < 128 := by omega
  clear hGe hG
  go_enter Try.func5, Try.ntmps5
  go_wp2_with fail
  refine hB.mono ?_
  rintro e w1 ⟨v, rfl, hO, hBel⟩
  obtain ⟨g, cap, rfl, _, _⟩ := hO.form (by omega)
  clear hB
  go_wp2_with (first | (go_at_call 16; refine (awake_any _).mono ?_; rintro e w' ⟨rfl, rfl⟩) | (go_at_call 17; refine (hr _).mono ?_; rintro e w' ⟨rfl, rfl⟩))
  go_loop [8, 9] (fun q i => ∃ j : Nat, j ≤ G + 1 ∧ i = .int .i64 j ∧ q = .bool (decide (gap a n < (j : Int)))) (fun _ i => 200 - (intOf i).toNat)
  case atStart => exact ⟨0, by omega, rfl, by have := (gap_range a n).1; simp; omega⟩
  case round =>
    obtain ⟨j, hj, rfl, rfl⟩ := hrel
    by_cases hlt : j < G + 1
    · have hc := own_at hO j _ (HX.out j hlt) rfl
      have hst := gap_step a j (by omega)
      have hhit := gap_hit a n j (by omega)
      have hx0 : 0 ≤ (a + j) % 128 ∧ (a + j) % 128 ≤ 127 := by omega
      generalize (a + (j : Int)) % 128 = x at *
      have hr2 : ∀ w, Calls Try.prog 17 #[.int .u8 a, .int .u8 x] w fun e w' => e = .returned (.int .i64 (j : Int)) ∧ w = w' := fun w => (refGap_any a x ha.1 hx0.1 w).mono fun e w' ⟨h1, h2⟩ => ⟨by rw [h1, hst], h2⟩
      clear hst hr
      have hr := hr2
      clear hr2
      by_cases hin : gap a n < (j : Int)
      · have e1 : decide (gap a n < (j : Int)) = true := by simp [hin]
        have e2 : decide (gap a n < ((j + 1 : Nat) : Int)) = true := by simp; omega
        rw [e1]
        clear e1 hin hhit
        go_wp2_with (go_at_call 17; refine (hr _).mono ?_; rintro e w' ⟨rfl, rfl⟩)
        exact ⟨⟨j + 1, by omega, by go_num, by rw [e2]⟩, by simp [intOf]; omega⟩
      · have e1 : decide (gap a n < (j : Int)) = false := by simp; omega
        have e2 : decide (gap a n < ((j + 1 : Nat) : Int)) = (x == n % 128) := by
          rw [Bool.eq_iff_iff]
          simp only [decide_eq_true_eq, beq_iff_eq]
          rw [hhit]
          omega
        rw [e1]
        clear e1 hin hhit
        go_wp2_with (go_at_call 17; refine (hr _).mono ?_; rintro e w' ⟨rfl, rfl⟩)
        exact ⟨⟨j + 1, by omega, by go_num, by rw [e2]⟩, by simp [intOf]; omega⟩
    · have hjG : j = G + 1 := by omega
      subst hjG
      rw [← hwi]
      go_wp2_with (go_at_call 22; refine (within_any _ _ _ _).mono ?_; rintro e w' ⟨rfl, rfl⟩)
      go_ret
      exact ⟨rfl, hBel⟩
end Go.Proofs.Ytailojidffehnaa
