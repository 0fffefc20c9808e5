/-
  The messages behind a number, held against the reference's.
-/
import Derived.Test.YtadheikcgdhcdaaHxR
import Derived.Test.YtadheikcgdhcdaaSm
namespace Go.Proofs.Ytadheikcgdhcdaa
open Go.RowKit
set_option linter.unusedVariables false
set_option linter.unusedSimpArgs false

theorem Msgs.oct {w : World} {base : Nat} {vs : List Value} {xs : List (List Int)} (h : Msgs w base vs xs) (i : Nat) (x : List Int) (hx : xs[i]? = some x) : ∃ v, vs[i]? = some v ∧ Oct w v x := by
  obtain ⟨g, c, cs, e1, -, hB, hc⟩ := h.2 i x hx
  exact ⟨_, e1, Oct.blk hB hc⟩
theorem RR.msg {W w : World} {vL : Value} {L : List (List Int)} (h : RR W w vL L) (i : Nat) (x : List Int) (hx : L[i]? = some x) : ∃ g o cap v, vL = .slice (some ⟨g, o, none⟩) L.length cap ∧ w.cell? ⟨g, o + i, none⟩ = some v ∧ Oct W v x := by
  obtain ⟨vs, h1, h2, h3⟩ := h
  obtain ⟨v, e1, e2⟩ := h3 i x hx
  obtain ⟨g, o, cap, e3, e4⟩ := h1.cell i v e1
  exact ⟨g, o, cap, v, by rw [e3, h2], e4, e2⟩
theorem knows_beh (f : Int) (len : Nat) (n : Int) (hn : 0 ≤ n) : behI f len n = if knowsB f len n = true then (n - f + 1) % 128 else -1 := by
  unfold behI knowsB
  by_cases h1 : n < 128
  · rw [if_neg (by omega)]
    by_cases h2 : (n - f + 1) % 128 ≤ len
    · rw [if_neg (by omega), if_pos (by simp [h1, h2])]
    · rw [if_pos (by omega), if_neg (by simp [h1, h2])]
  · rw [if_pos (by omega), if_neg (by simp [h1])]
set_option maxHeartbeats 4000000 in
set_option maxRecDepth 100000 in
theorem rest_true {W w : World} {h : Nat} {m o f : Int} {sv nv vL : Value} {ss ns L : List (List Int)} (k : HX w h m o f sv nv ss ns) (hLd : ss ++ ns = L) (hL : RR W w vL L) (hWw : Below W.heap.size W w) (hby : ∀ x ∈ L, ∀ z ∈ x, 0 ≤ z ∧ z < 256) (m2 o2 : Int) (t : SdT) (n : Int) (hn : 0 ≤ n ∧ n ≤ 255) :
    Calls Try.prog 31 #[.pointer (some ⟨h, 0, none⟩), .agg (sdc vL ss.length f m2 o2 t).toArray, .int .u8 n] w fun e w' => e = .returned (.bool true) ∧ Below w.heap.size w w' := by
  obtain ⟨a, c, rfl⟩ := hL.shape
  obtain ⟨N, hN⟩ : ∃ N, L.length = N := ⟨_, rfl⟩
  rw [hN] at hL ⊢
  have hlapp : N = ss.length + ns.length := by rw [← hN, ← hLd, List.length_append]
  have hfin := k.fin
  have hwin := k.win
  have hcnt := k.cnt
  have hS := Blk.new w (sdc (.slice a N c) ss.length f m2 o2 t) 51
  have hb : Below w.heap.size w (w.alloc (.cells (sdc (.slice a N c) ss.length f m2 o2 t).toArray 51)) := (Below.refl _ _).alloc (Nat.le_refl _) _
  have k1 := k.below hb
  have hL1 := hL.below hb
  have hW1 := hWw.trans (hb.mono hWw.size)
  have hwn : IntKind.i64.wrap n = n := wrapH _ (by omega)
  have HN := Lib.hid (And.intro hN (And.intro hLd hlapp))
  clear hN hLd hlapp
  clear k hL
  have hkb := knows_beh f ss.length n hn.1
  cases hk : knowsB f ss.length n with
  | false =>
    rw [hk, if_neg (by decide)] at hkb
    have hr := k1.rest_no n hn hk
    go_enter Try.func31, Try.ntmps31
    go_upto_region 1 with fail
    generalize w.alloc (.cells (sdc (.slice a N c) ss.length f m2 o2 t).toArray 51) = X at *
    go_wp2_with fail
    refine hr.mono ?_
    rintro e w1 ⟨rfl, q, rfl⟩
    have hbe := rbehind a N c ss.length f m2 o2 t n (X.drewN q) (by omega) hfin
    rw [hkb] at hbe
    go_wp2_with (refine wpList_side_load rfl (.tmp 4) rfl w.heap.size rfl _ (hS.drewN q) rfl ?_)
    refine hbe.mono ?_
    rintro e w2 ⟨rfl, hb2⟩
    go_wp2
    go_ret
    exact ⟨rfl, (below_drewN hb q).trans (hb2.mono hb.size)⟩
  | true =>
    rw [hk, if_pos rfl] at hkb
    have hk2 : n < 128 ∧ (n - f + 1) % 128 ≤ ss.length := by simpa [knowsB] using hk
    obtain ⟨i, hi⟩ : ∃ i : Nat, (n - f + 1) % 128 = i := ⟨((n - f + 1) % 128).toNat, by omega⟩
    rw [hi] at hkb hk2
    have hr := k1.rest_yes n hn hk i hi
    have hile : i ≤ ss.length := by omega
    go_enter Try.func31, Try.ntmps31
    go_upto_region 1 with fail
    generalize w.alloc (.cells (sdc (.slice a N c) ss.length f m2 o2 t).toArray 51) = X at *
    go_wp2_with fail
    refine hr.mono ?_
    rintro e w1 ⟨vl, ls, rfl, hl1, hl2, hb1⟩
    have hS1 := hS.below hb1
    have hL2 := hL1.below hb1
    have hb3 := bthen hb hb1
    have hbe := rbehind a N c ss.length f m2 o2 t n w1 (by omega) hfin
    rw [hkb] at hbe
    go_wp2_with (refine wpList_side_load rfl (.tmp 4) rfl w.heap.size rfl _ hS1 rfl ?_)
    refine hbe.mono ?_
    rintro e w2 ⟨rfl, hb2⟩
    have hS2 := hS1.below hb2
    have hL3 := hL2.below hb2
    have hl3 := hl1.fr (S := fun _ => False) (.of_below hb2) (fun _ _ h => h)
    have hl4 := hl2.below hb2
    have hb4 := bthen hb3 hb2
    have hW4 := hWw.trans (hb4.mono hWw.size)
    clear hS hL1 hb hr hS1 hL2 hb3 hl1 hl2 hb1 hb2 hbe k1 hW1 hWw
    have hdr : ss.drop i ++ ns = L.drop i := by rw [← HN.out.2.1, List.drop_append_of_le_length hile]
    rw [hdr] at hl4
    clear hdr
    obtain ⟨lsn, hlsn⟩ : ∃ lsn, ls.length = lsn := ⟨_, rfl⟩
    have hlen : lsn + i = N := by have := hl4.1; rw [List.length_drop] at this; have := HN.out.1; have := HN.out.2.2; omega
    obtain ⟨va, vc, rfl⟩ := hl3.shape
    rw [hlsn] at hl3 ⊢
    have hNb : N ≤ 1000 := by have := HN.out.2.2; omega
    have hws : IntKind.i64.wrap ((N : Int) - (i : Int)) = (lsn : Int) := by rw [wrapH _ (by omega)]; omega
    have hi0 : ¬ ((i : Int) < 0) := by omega
    clear hcnt hwin hkb hk2 hile hi
    have c0 := hS2.cell 0 rfl
    go_wp2_with fail
    go_loopw [10] (fun j wr => ∃ (kk q : Nat), kk ≤ lsn ∧ j = .int .i64 kk ∧ wr = w2.drewN q) (fun j _ => lsn - (intOf j).toNat)
    case atStart => exact ⟨0, 0, Nat.zero_le _, rfl, rfl⟩
    case round =>
      obtain ⟨kk, q, hkk, rfl, rfl⟩ := hrel
      by_cases hlt : kk < lsn
      · have hltI : (kk : Int) < (lsn : Int) := by omega
        obtain ⟨x, hx⟩ : ∃ x, L[i + kk]? = some x := ⟨_, List.getElem?_eq_getElem (by have := HN.out.1; omega)⟩
        obtain ⟨v1, e1, o1⟩ := hl4.oct kk x (by rw [List.getElem?_drop]; exact hx)
        obtain ⟨g1, p1, cap1, e2, y1⟩ := hl3.cell kk v1 e1
        simp only [Value.slice.injEq] at e2
        obtain ⟨rfl, -, rfl⟩ := e2
        obtain ⟨g2, p2, cap2, v2, e3, y2, o2'⟩ := hL3.msg (i + kk) x hx
        simp only [Value.slice.injEq] at e3
        obtain ⟨rfl, -, rfl⟩ := e3
        have hbx := hby x (List.mem_of_getElem? hx)
        have s1 := fun d => (o1.drewN d).str hbx
        have s2 := fun d => ((o2'.below hW4).drewN d).str hbx
        obtain ⟨a1, d1, rfl, -⟩ := o1
        obtain ⟨a2, d2, rfl, -⟩ := o2'
        have hwk : IntKind.i64.wrap ((i : Int) + (kk : Int)) = ((i + kk : Nat) : Int) := by rw [wrapH _ (by omega)]; omega
        have hwk2 : IntKind.i64.wrap ((kk : Int) + 1) = ((kk + 1 : Nat) : Int) := by rw [wrapH _ (by omega)]; omega
        have hlt2 : i + kk < N := by omega
        go_upto_region 10 with fail
        go_quiet (fail)
        go_wp2_with fail
        exact ⟨⟨kk + 1, _, by omega, rfl, rfl⟩, by simp [intOf]; omega⟩
      · have hkn : kk = lsn := by omega
        subst hkn
        go_wp2
        go_ret
        exact ⟨rfl, below_drewN hb4 q⟩
end Go.Proofs.Ytadheikcgdhcdaa
