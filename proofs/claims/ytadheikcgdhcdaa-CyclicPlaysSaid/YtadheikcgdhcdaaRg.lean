/-
  The reference's side of a way: some are answered, some are thrown away, one is put.
-/
import Derived.Test.YtadheikcgdhcdaaRf
namespace Go.Proofs.Ytadheikcgdhcdaa
open Go.RowKit
set_option linter.unusedVariables false
set_option linter.unusedSimpArgs false

theorem SS.dropv {w : World} {base n c : Nat} {a : Option Addr} {e : TypeId} {vs : List Value} (h : SS w base e (.slice a n c) vs) (k : Nat) (hk : k ≤ vs.length) : SS w base e (.slice (if c = k then a else Option.map (fun x => x.add k) a) (n - k) (c - k)) (vs.drop k) := by
  rcases a with _ | ⟨g, o, sp⟩
  · rcases h with ⟨h, rfl⟩ | ⟨g', o', cap', cs, h0, _⟩
    · simp only [Value.slice.injEq] at h
      obtain ⟨-, rfl, rfl⟩ := h
      have : k = 0 := by simpa using hk
      subst this
      exact .inl ⟨rfl, rfl⟩
    · cases h0
  · have hsp : sp = none := by
      rcases h with ⟨h, _⟩ | ⟨g', o', cap', cs, h0, _⟩
      · cases h
      · simp only [Value.slice.injEq, Option.some.injEq, Addr.mk.injEq] at h0
        exact h0.1.2.2
    subst hsp
    have h2 := h.dropk k hk
    have e1 : (if c = k then some (⟨g, o, none⟩ : Addr) else Option.map (fun x : Addr => x.add k) (some (⟨g, o, none⟩ : Addr))) = some ⟨g, if c = k then o else o + k, none⟩ := by
      by_cases hc : c = k
      · rw [if_pos hc, if_pos hc]
      · rw [if_neg hc, if_neg hc]
        show some ((⟨g, o, none⟩ : Addr).add k) = _
        have : (⟨g, o, none⟩ : Addr).add k = ⟨g, o + k, none⟩ := by unfold Addr.add; split <;> simp_all
        rw [this]
    rw [e1]
    exact h2
theorem RR.dropv {W w : World} {a : Option Addr} {n c : Nat} {L : List (List Int)} (h : RR W w (.slice a n c) L) (k : Nat) (hk : k ≤ L.length) : RR W w (.slice (if c = k then a else Option.map (fun x => x.add k) a) (n - k) (c - k)) (L.drop k) := by
  obtain ⟨vs, h1, h2, h3⟩ := h
  refine ⟨vs.drop k, h1.dropv k (by omega), by simp [h2], fun i x hx => ?_⟩
  rw [List.getElem?_drop] at hx ⊢
  exact h3 _ x hx
set_option maxRecDepth 100000 in
theorem rfree_no (a : Option Addr) (n c : Nat) (sent first most oct : Int) (t : SdT) (i : Int) (w : World) (hi : -1000 ≤ i ∧ i ≤ 1000) (hf : 0 ≤ first ∧ first ≤ 127) (hk : behI first sent i = -1) :
    Calls Try.prog 32 #[.agg (sdc (.slice a n c) sent first most oct t).toArray, .int .i64 i] w fun e w' => e = .returned (.tuple #[.agg (sdc (.slice a n c) sent first most oct t).toArray, .int .i64 (-1)]) ∧ Below w.heap.size w w' := by
  obtain ⟨X, hX, hS, hR, hb⟩ := side_in w (sdc (.slice a n c) sent first most oct t)
  have hbe := rbehind a n c sent first most oct t i X hi hf
  rw [hk] at hbe
  go_enter Try.func32, Try.ntmps32
  go_upto_region 1 with fail
  rw [← hX]
  clear hX
  go_wp2_with (refine wpList_side_load rfl (.tmp 2) rfl w.heap.size rfl _ hS rfl ?_)
  refine hbe.mono ?_
  rintro e X1 ⟨rfl, hb1⟩
  have hS1 := hS.below hb1
  have hR1 := hR.below hb1
  have hb2 := bthen hb hb1
  clear hS hR hb hb1 hbe
  go_wp2_with (first | (refine wpList_side_load rfl (.tmp 2) rfl w.heap.size rfl _ hS1 rfl ?_) | (refine wpList_side_store rfl (.tmp 4) (.tmp 12) rfl (w.heap.size + 1) _ _ rfl rfl hR1 rfl rfl (sdc_one _ _ _ _ _ _ _ _) ?_))
  refine bodyPost_ret (res_row Try.results32 (by rfl) (Blk.row hR1 _) rfl) rfl ⟨rfl, ?_⟩
  exact below_row hb2 (by omega) _
set_option maxRecDepth 100000 in
theorem rfree_yes (W w : World) (vL : Value) (L : List (List Int)) (hL : RR W w vL L) (sent first most oct : Int) (t : SdT) (i : Int) (hi : -1000 ≤ i ∧ i ≤ 1000) (hf : 0 ≤ first ∧ first ≤ 127) (k : Nat) (hk : behI first sent i = k) (hs : sent ≤ L.length) (hks : (k : Int) ≤ sent) (hs1 : L.length ≤ 1000) :
    Calls Try.prog 32 #[.agg (sdc vL sent first most oct t).toArray, .int .i64 i] w fun e w' => ∃ vL', e = .returned (.tuple #[.agg (sdc vL' (sent - k) ((first + k) % 128) most oct t).toArray, .int .i64 k]) ∧ RR W w' vL' (L.drop k) ∧ Below w.heap.size w w' ∧ (∀ g, vL'.ownBlock = some g → vL.ownBlock = some g) := by
  have hw1 : IntKind.i64.wrap (sent - k) = sent - k := wrapH _ (by omega)
  have hw2 : IntKind.i64.wrap (first + k) = first + k := wrapH _ (by omega)
  have hw3 : (first + (k : Int)).tmod 128 = (first + k) % 128 := Int.tmod_eq_emod_of_nonneg (by omega)
  obtain ⟨a, c, rfl⟩ := hL.shape
  obtain ⟨N, hN⟩ : ∃ N, L.length = N := ⟨_, rfl⟩
  have hcap : N ≤ c ∧ c ≤ maxLen := by
    obtain ⟨vs, hSS, hl, hm⟩ := hL
    obtain ⟨a', c', e, h1, h2⟩ := hSS.shape2
    simp only [Value.slice.injEq] at e
    rw [hN] at hl
    obtain ⟨-, -, rfl⟩ := e
    omega
  rw [hN] at hL hs hs1 ⊢
  obtain ⟨X, hX, hS, hR, hb⟩ := side_in w (sdc (.slice a N c) sent first most oct t)
  have hbe := rbehind a N c sent first most oct t i X hi hf
  rw [hk] at hbe
  have hk0 : ¬ ((k : Int) < 0) := by omega
  have hkN : k ≤ N := by omega
  go_enter Try.func32, Try.ntmps32
  go_upto_region 1 with fail
  rw [← hX]
  clear hX
  go_wp2_with (refine wpList_side_load rfl (.tmp 2) rfl w.heap.size rfl _ hS rfl ?_)
  refine hbe.mono ?_
  rintro e X1 ⟨rfl, hb1⟩
  have hS1 := hS.below hb1
  have hR1 := hR.below hb1
  have hb2 := bthen hb hb1
  have hL1 := hL.below hb2
  clear hS hR hb hb1 hbe hL
  have c0 := hS1.cell 0 rfl
  have c1 := hS1.cell 1 rfl
  have c2 := hS1.cell 2 rfl
  have f0 := hS1.frozen 0
  have f1 := hS1.frozen 1
  have f2 := hS1.frozen 2
  go_upto_region 5 with fail
  have hL2 := hL1.dropv k (by omega)
  obtain ⟨a', ha'⟩ : ∃ a', (if c = k then a else Option.map (fun x => x.add k) a) = a' := ⟨_, rfl⟩
  have hown : ∀ g, (Value.slice a' (N - k) (c - k)).ownBlock = some g → (Value.slice a N c).ownBlock = some g := by
    intro g hg
    rw [← ha'] at hg
    cases a with
    | none => split at hg <;> cases hg
    | some ad =>
      split at hg
      · exact hg
      · have e1 : (ad.add k).block = ad.block := by unfold Addr.add; split <;> rfl
        have e2 : (ad.add k).block = g := by simpa [Value.ownBlock] using hg
        show some ad.block = some g
        rw [← e1, e2]
  have HO := Lib.hid hown
  rw [ha'] at hL2 ⊢
  clear hown ha' c0 c1 c2 f0 f1 f2 hL1
  have hS2 := (hS1.set 0 (.slice a' (N - k) (c - k))).as (show _ = sdc (.slice a' (N - k) (c - k)) sent first most oct t from rfl)
  have hR2 := hR1.other (a := ⟨w.heap.size, 0, none⟩) (by show w.heap.size + 1 ≠ w.heap.size; omega) (.slice a' (N - k) (c - k))
  have hb3 := hb2.setCell (p := ⟨w.heap.size, 0, none⟩) (Nat.le_refl _) (.slice a' (N - k) (c - k))
  have hL3 := hL2.fr (Fr.set1 X1 ⟨w.heap.size, 0, none⟩ (.slice a' (N - k) (c - k))) (fun g hg e => by
    subst e
    obtain ⟨vs, q1, -, -⟩ := hL2
    obtain ⟨cs, q2⟩ := q1.own33 hg
    exact Blk.apart q2 hS1 (by decide) rfl)
  clear hS1 hR1 hb2 hL2
  generalize X1.setCell ⟨w.heap.size, 0, none⟩ (.slice a' (N - k) (c - k)) = X2 at *
  have c1 := hS2.cell 1 rfl
  have c2 := hS2.cell 2 rfl
  have f1 := hS2.frozen 1
  have f2 := hS2.frozen 2
  have hS3 := (hS2.set 1 (.int .i64 (sent - k))).as (show _ = sdc (.slice a' (N - k) (c - k)) (sent - k) first most oct t from rfl)
  have hR3 := hR2.other (a := ⟨w.heap.size, 1, none⟩) (by show w.heap.size + 1 ≠ w.heap.size; omega) (.int .i64 (sent - k))
  have hb4 := hb3.setCell (p := ⟨w.heap.size, 1, none⟩) (Nat.le_refl _) (.int .i64 (sent - k))
  have hS4 := (hS3.set 2 (.int .i64 ((first + k) % 128))).as (show _ = sdc (.slice a' (N - k) (c - k)) (sent - k) ((first + k) % 128) most oct t from rfl)
  have hR4 := hR3.other (a := ⟨w.heap.size, 2, none⟩) (by show w.heap.size + 1 ≠ w.heap.size; omega) (.int .i64 ((first + k) % 128))
  have hb5 := hb4.setCell (p := ⟨w.heap.size, 2, none⟩) (Nat.le_refl _) (.int .i64 ((first + k) % 128))
  go_wp2_with (first | (refine wpList_side_load rfl (.tmp 2) rfl w.heap.size rfl _ hS4 rfl ?_) | (refine wpList_side_store rfl (.tmp 4) (.tmp 29) rfl (w.heap.size + 1) _ _ rfl rfl hR4 rfl rfl (sdc_one _ _ _ _ _ _ _ _) ?_))
  refine bodyPost_ret (res_row Try.results32 (by rfl) (Blk.row hR4 _) rfl) rfl ⟨.slice a' (N - k) (c - k), rfl, ?_, below_row hb5 (by omega) _, HO.out⟩
  have hF1 : Fr (fun q => q = w.heap.size ∨ q = w.heap.size + 1) X2 (((X2.setCell ⟨w.heap.size, 1, none⟩ (.int .i64 (sent - k))).setCell ⟨w.heap.size, 2, none⟩ (.int .i64 ((first + k) % 128))).setRow (w.heap.size + 1) (sdc (.slice a' (N - k) (c - k)) (sent - k) ((first + k) % 128) most oct t).toArray) := (((Fr.refl _ _).setCell (p := ⟨w.heap.size, 1, none⟩) (.inl (.inl rfl)) _).setCell (p := ⟨w.heap.size, 2, none⟩) (.inl (.inl rfl)) _).row (.inl (.inr rfl)) _
  refine hL3.fr hF1 (fun g hg e => ?_)
  obtain ⟨vs, q1, -, -⟩ := hL3
  obtain ⟨cs, q2⟩ := q1.own33 hg
  rcases e with rfl | rfl
  · exact Blk.apart q2 hS2 (by decide) rfl
  · exact Blk.apart q2 hR2 (by decide) rfl
set_option maxRecDepth 100000 in
theorem rflush (W w : World) (vL : Value) (L : List (List Int)) (hL : RR W w vL L) (sent : Nat) (first most oct : Int) (t : SdT) (hs : sent ≤ L.length) (hs1 : L.length ≤ 1000) :
    Calls Try.prog 34 #[.agg (sdc vL sent first most oct t).toArray] w fun e w' => ∃ vL', e = .returned (.agg (sdc vL' sent first most oct t).toArray) ∧ RR W w' vL' (L.take sent) ∧ Below w.heap.size w w' ∧ (∀ g, vL'.ownBlock = some g → vL.ownBlock = some g) := by
  obtain ⟨a, c, rfl⟩ := hL.shape
  obtain ⟨N, hN⟩ : ∃ N, L.length = N := ⟨_, rfl⟩
  have hcap : N ≤ c ∧ c ≤ maxLen := by
    obtain ⟨vs, hSS, hl, hm⟩ := hL
    obtain ⟨a', c', e, h1, h2⟩ := hSS.shape2
    simp only [Value.slice.injEq] at e
    rw [hN] at hl
    obtain ⟨-, -, rfl⟩ := e
    omega
  rw [hN] at hL hs hs1 ⊢
  obtain ⟨X, hX, hS, hR, hb⟩ := side_in w (sdc (.slice a N c) sent first most oct t)
  have c0 := hS.cell 0 rfl
  have c1 := hS.cell 1 rfl
  have f0 := hS.frozen 0
  go_enter Try.func34, Try.ntmps34
  go_upto_region 1 with fail
  rw [← hX]
  clear hX
  go_upto_region 2 with fail
  have hL1 := (hL.below hb).take sent (by omega)
  have hS1 := (hS.set 0 (.slice a sent c)).as (show _ = sdc (.slice a sent c) sent first most oct t from rfl)
  have hR1 := hR.other (a := ⟨w.heap.size, 0, none⟩) (by show w.heap.size + 1 ≠ w.heap.size; omega) (.slice a sent c)
  have hb1 := hb.setCell (p := ⟨w.heap.size, 0, none⟩) (Nat.le_refl _) (.slice a sent c)
  go_wp2_with (first | (refine wpList_side_load rfl (.tmp 1) rfl w.heap.size rfl _ hS1 rfl ?_) | (refine wpList_side_store rfl (.tmp 2) (.tmp 9) rfl (w.heap.size + 1) _ _ rfl rfl hR1 rfl rfl (sdc_one _ _ _ _ _ _ _ _) ?_))
  refine bodyPost_ret (results_cell_row Try.results34 _ _ (w.heap.size + 1) 51 _ (0, 0) _ (by rfl) (Blk.row hR1 _) Try.underlying51 rfl (by rw [info51]; rfl)) rfl ⟨.slice a sent c, rfl, ?_, below_row hb1 (by omega) _, fun g hg => by cases a with | none => cases hg | some ad => exact hg⟩
  have hF1 : Fr (fun q => q = w.heap.size ∨ q = w.heap.size + 1) X ((X.setCell ⟨w.heap.size, 0, none⟩ (.slice a sent c)).setRow (w.heap.size + 1) (sdc (.slice a sent c) sent first most oct t).toArray) := ((Fr.refl _ _).setCell (p := ⟨w.heap.size, 0, none⟩) (.inl (.inl rfl)) _).row (.inl (.inr rfl)) _
  refine hL1.fr hF1 (fun g hg e => ?_)
  obtain ⟨vs, q1, -, -⟩ := hL1
  obtain ⟨cs, q2⟩ := q1.own33 hg
  rcases e with rfl | rfl
  · exact Blk.apart q2 hS (by decide) rfl
  · exact Blk.apart q2 hR (by decide) rfl
end Go.Proofs.Ytadheikcgdhcdaa
