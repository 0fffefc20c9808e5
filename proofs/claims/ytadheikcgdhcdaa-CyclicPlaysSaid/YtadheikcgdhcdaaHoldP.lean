/-
  A hold with many messages: one more is put.
-/
import Derived.Test.YtadheikcgdhcdaaHoldG
namespace Go.Proofs.Ytadheikcgdhcdaa
open Go.RowKit
set_option linter.unusedVariables false
set_option linter.unusedSimpArgs false

/-- A clone, whole: its block is one of octets. -/
theorem clone_blk (g n c : Nat) (xs : List Value) (w : World) (hx : ∀ j u, xs[j]? = some u → w.cell? ⟨g, j, none⟩ = some u) (hl : xs.length = n) (h : 0 < n) (hm : n ≤ 400) (h1 : ∀ u ∈ xs, u.oneCell' = true) :
    Calls Try.prog 70 #[.slice (some ⟨g, 0, none⟩) n c] w fun e w' => ∃ (g' c' : Nat) (cs : List Value), e = .returned (.slice (some ⟨g', 0, none⟩) n c') ∧ Below w.heap.size w w' ∧ w.heap.size ≤ g' ∧ Blk w' g' cs 5 ∧ (∀ (j : Nat) (u : Value), xs[j]? = some u → cs[j]? = some u) := by
  have hB : Below w.heap.size w (w.alloc (.cells #[] 5)) := (Below.refl _ _).alloc (Nat.le_refl _) _
  have hX : Hid (∀ j u, xs[j]? = some u → (w.alloc (.cells #[] 5)).cell? ((⟨g, 0, none⟩ : Addr).add j) = some u) := Lib.hid (fun j u hj => by
    rw [hadd]
    have := hx j u hj
    rw [World.cell?_alloc_lt _ _ _ (World.block_lt_of_cell? _ _ this)]; exact this)
  obtain ⟨i0, hi, hz0, hz1, hz2⟩ := info_parts infoC5
  have hq := eq_nil ⟨g, 0, none⟩ n c w
  have HL := Lib.hid hl
  have H1 := Lib.hid h1
  clear hx hl h1
  go_enter Try.func70, Try.ntmps70
  go_wp2_with (refine wpList_append_grows _ rfl (.tmp 5) (.tmp 6) 33 rfl 5 i0 (.int .u8 0) 1 1 Try.underlying33 hi hz0 hz1 hz2 rfl (by decide) (some ⟨w.heap.size, 0, none⟩) 0 0 [] rfl (fun h => by cases h) rfl (fun b hb j u hj => by cases hj) ⟨g, 0, none⟩ n c xs rfl (by rw [HL.out]; omega) hX.out H1.out (by omega) (by unfold maxLen; omega) (by omega) ?_; intro v' w' hown hgr)
  rw [Nat.zero_add, List.nil_append] at hown
  obtain ⟨g', c', rfl, hg, -⟩ := hown.form h
  refine bodyPost_ret (v := .slice (some ⟨g', 0, none⟩) n c') (by simp [results, Try.results70, go_sem]) rfl ?_
  have hsz : w.heap.size ≤ g' := by simp only [World.size_alloc] at hg; omega
  rcases SS.of_own hown with h0 | ⟨g2, o2, cap2, cs, h0, hb2, hB2, q1, q2, q3, q4⟩
  · exact absurd h0.1 (by simp)
  · simp only [Value.slice.injEq, Option.some.injEq, Addr.mk.injEq] at h0
    obtain ⟨⟨rfl, rfl, _⟩, _, rfl⟩ := h0
    refine ⟨g', c', cs, rfl, hB.trans (((Fr.refl (fun _ => False) _).grown hgr (by simp)).below hB.size (by simp)), hsz, hB2, fun j u hj => ?_⟩
    have hjl := (List.getElem?_eq_some_iff.1 hj).1
    have := q4 j hjl
    rw [Nat.zero_add] at this
    rw [this]; exact hj

theorem Msgs.snoc {w : World} {base : Nat} {vs : List Value} {xs : List (List Int)} {g c : Nat} {cs : List Value} {x : List Int} (h : Msgs w base vs xs) (hb : base ≤ g) (hB : Blk w g cs 5) (hc : ∀ (j : Nat) (u : Value), (x.map (Value.int .u8))[j]? = some u → cs[j]? = some u) : Msgs w base (vs ++ [.slice (some ⟨g, 0, none⟩) x.length c]) (xs ++ [x]) := by
  refine ⟨by simp [h.1], fun i y hy => ?_⟩
  by_cases hi : i < xs.length
  · rw [List.getElem?_append_left hi] at hy
    obtain ⟨g', c', cs', h1, h2, h3, h4⟩ := h.2 i y hy
    exact ⟨g', c', cs', by rw [List.getElem?_append_left (by rw [← h.1]; exact hi)]; exact h1, h2, h3, h4⟩
  · have hlt := (List.getElem?_eq_some_iff.1 hy).1
    simp only [List.length_append, List.length_singleton] at hlt
    have hie : i = xs.length := by omega
    subst hie
    rw [List.getElem?_append_right (Nat.le_refl _), Nat.sub_self] at hy
    obtain rfl : x = y := by simpa using hy
    exact ⟨g, c, cs, by rw [h.1, List.getElem?_append_right (Nat.le_refl _), Nat.sub_self]; rfl, hb, hB, hc⟩

/-- Behind the append and the store: the hold with one more. -/
theorem put_done {base h g2 c2 : Nat} {m o f : Int} {sv nv v' : Value} {ss ns : List (List Int)} {w w1 w5 : World} {ob : Obj} {x : List Int} {cs nvs : List Value} (k : HG w base h m o f sv nv ss ns) (hb1 : Below w.heap.size w w1)
    (hn1 : SS w base 33 nv nvs) (hn2 : Msgs w base nvs ns) (hg2 : w.heap.size ≤ g2) (hB2 : Blk w1 g2 cs 5) (hc : ∀ (j : Nat) (u : Value), (x.map (Value.int .u8))[j]? = some u → cs[j]? = some u)
    (hS : SS w5 base 33 v' (nvs ++ [.slice (some ⟨g2, 0, none⟩) x.length c2])) (hG : (w1.alloc ob).grownBy w5 nv.ownBlock) (hv : ∀ g, v'.ownBlock = some g → nv.ownBlock = some g ∨ (w1.alloc ob).heap.size ≤ g) :
    HG (w5.setCell ⟨h, 4, none⟩ v') base h m o f sv v' ss (ns ++ [x]) ∧ Fr (fun q => q = h ∨ base ≤ q) w (w5.setCell ⟨h, 4, none⟩ v') := by
  have hs1 := hb1.size
  have hFa : Fr (fun _ => False) w (w1.alloc ob) := (Fr.of_below hb1).alloc ob
  have hFg : Fr (fun q => nv.ownBlock = some q) (w1.alloc ob) w5 := (Fr.refl _ _).grown hG (fun q e => .inl e)
  have hF5 : Fr (fun q => nv.ownBlock = some q) w w5 := (hFa.mono (fun _ h => h.elim)).then_ hFg
  have hFs : Fr (fun q => q = h) w5 (w5.setCell ⟨h, 4, none⟩ v') := Fr.set1 w5 ⟨h, 4, none⟩ v'
  have hFall : Fr (fun q => nv.ownBlock = some q ∨ q = h) w (w5.setCell ⟨h, 4, none⟩ v') := (hF5.mono (fun _ h => .inl h)).then_ (hFs.mono (fun _ h => .inr h))
  have hno : ∀ g cs, Blk w g cs 5 → base ≤ g → ¬ (nv.ownBlock = some g ∨ g = h) := by
    rintro g cs hB hb (e | e)
    · rcases hn1 with ⟨rfl, _⟩ | ⟨g', o', cap, cs', rfl, _, hB', _⟩
      · cases e
      · have : g' = g := by simpa [Value.ownBlock] using e
        subst this
        have := Eq.trans (Eq.symm (show w.heap[g']? = _ from hB)) (show w.heap[g']? = _ from hB')
        simp at this
    · have := k.lt; omega
  obtain ⟨svs, hs1', hs2'⟩ := k.sl
  refine ⟨⟨?_, ⟨svs, hs1'.fr hFall ?_, hs2'.fr hFall hno⟩, ⟨_, hS.fr hFs ?_, ?_⟩, ?_, k.lt, Nat.le_trans k.big hFall.size⟩, hFall.mono ?_⟩
  · have hh : Blk w5 h [.int .i64 m, .int .i64 o, sv, .int .u8 f, nv] 105 := k.blk.fr hF5 (fun e => by
      rcases hn1 with ⟨rfl, _⟩ | ⟨g', o', cap, cs', rfl, hb, _⟩
      · cases e
      · have : g' = h := by simpa [Value.ownBlock] using e
        have := k.lt; omega)
    exact hh.set 4 v'
  · rintro g hg (e | e)
    · exact k.sep g hg e
    · have := (hs1'.own hg).1; have := k.lt; omega
  · intro g hg e
    have := (hS.own hg).1; have := k.lt; omega
  · have hB5 : Blk (w5.setCell ⟨h, 4, none⟩ v') g2 cs 5 := by
      have ha : Blk (w1.alloc ob) g2 cs 5 := hB2.alloc ob
      refine (ha.fr hFg (fun e => ?_)).fr hFs (fun e => by have := k.lt; have := k.big; omega)
      rcases hn1 with ⟨rfl, _⟩ | ⟨g', o', cap, cs', rfl, hb, hB', _⟩
      · cases e
      · have : g' = g2 := by simpa [Value.ownBlock] using e
        have := hB'.lt
        omega
    exact (hn2.fr hFall hno).snoc (by have := k.big; omega) hB5 hc
  · intro g hg1 hg2'
    rcases hv g hg2' with e | e
    · exact k.sep g hg1 e
    · have := (hs1'.own hg1).2; simp only [World.size_alloc] at e; omega
  · rintro q (e | e)
    · exact .inr (hn1.own e).1
    · exact .inl e

theorem SS.shape {w : World} {base : Nat} {e : TypeId} {v : Value} {vs : List Value} (h : SS w base e v vs) : ∃ a cap, v = .slice a vs.length cap := by
  rcases h with ⟨rfl, rfl⟩ | ⟨g, o, cap, cs, rfl, _⟩
  · exact ⟨none, 0, rfl⟩
  · exact ⟨_, cap, rfl⟩

set_option maxHeartbeats 4000000 in
theorem put_room (base h g c : Nat) (m o f : Int) (sv nv : Value) (ss ns : List (List Int)) (x : List Int) (w : World) (k : HG w base h m o f sv nv ss ns) (hx : ∀ (j : Nat) (u : Value), (x.map (Value.int .u8))[j]? = some u → w.cell? ⟨g, j, none⟩ = some u)
    (hl : 3 ≤ x.length ∧ x.length ≤ 273) (hr : (ss.length : Int) + ns.length < m) (ho : octs ss + octs ns + x.length ≤ o) (hb : ss.length ≤ 1000 ∧ ns.length ≤ 1000) (h3 : (∀ x ∈ ss, x.length ≤ 300) ∧ ∀ x ∈ ns, x.length ≤ 300) :
    Calls Try.prog 21 #[.pointer (some ⟨h, 0, none⟩), .slice (some ⟨g, 0, none⟩) x.length c] w fun e w' => ∃ nv', e = .returned (.int .i64 0) ∧ HG w' base h m o f sv nv' ss (ns ++ [x]) ∧ Fr (fun q => q = h ∨ base ≤ q) w w' := by
  have c0 := k.blk.cell 0 rfl
  have c1 := k.blk.cell 1 rfl
  have c2 := k.blk.cell 2 rfl
  have c4 := k.blk.cell 4 rfl
  obtain ⟨svs, hs1, hs2⟩ := k.sl
  obtain ⟨nvs, hn1, hn2⟩ := k.nl
  obtain ⟨sa, sc, rfl⟩ := hs1.shape
  obtain ⟨na, nc, rfl⟩ := hn1.shape
  have hoc := fun n => octets_gen (w.drewN n) (k.drewN n) hb h3
  have d1 := octs_bd ss h3.1
  have d2 := octs_bd ns h3.2
  have es := hs2.1
  have en := hn2.1
  obtain ⟨L, hL⟩ : ∃ L, x.length = L := ⟨_, rfl⟩
  obtain ⟨q, hq⟩ : ∃ q, octs ss + octs ns = q := ⟨_, rfl⟩
  have hw1 : IntKind.i64.wrap ((svs.length : Int) + nvs.length) = (svs.length : Int) + nvs.length := wrapH _ (by omega)
  have hw2 : IntKind.i64.wrap (q + (L : Int)) = q + L := wrapH _ (by omega)
  have g1 : ¬ ((L : Int) < 3) := by omega
  have g2 : ¬ ((273 : Int) < L) := by omega
  have g3 : ¬ (m ≤ (svs.length : Int) + nvs.length) := by omega
  have g4 : ¬ (o < q + (L : Int)) := by omega
  have hnl : nvs.length ≤ 1000 := by omega
  have HX := Lib.hid hx
  have HK := Lib.hid k
  have HS := Lib.hid hn1
  have HN := Lib.hid hn2
  have hL3 : 3 ≤ L ∧ L ≤ 273 := by omega
  have hEL := Lib.hid hL
  simp only [hq] at hoc
  rw [hL]
  clear hs1 hs2 hn1 hn2 k hx hl hr ho d1 d2 hq hb h3 es en hL
  go_enter Try.func21, Try.ntmps21
  go_upto_region 7 with fail
  go_quiet ((go_at_call 69; exact Calls.quiet_of (hoc _)))
  go_upto_region 9 with fail
  have kq := Lib.hid (HK.out.drewN nq)
  have HXq : Hid (∀ (j : Nat) (u : Value), (x.map (Value.int .u8))[j]? = some u → (w.drewN nq).drew.cell? ⟨g, j, none⟩ = some u) := HX
  have HSq : Hid (SS (w.drewN nq).drew base 33 (.slice na nvs.length nc) nvs) := HS
  have HNq : Hid (Msgs (w.drewN nq).drew base nvs ns) := HN
  have hFq : Fr (fun q => q = h ∨ base ≤ q) w (w.drewN nq).drew := ((Fr.refl _ w).drewN nq).drew
  clear HX HK HS HN c0 c1 c2 c4 hoc
  generalize w.drewN nq = W at kq HXq HSq HNq hFq ⊢
  have c4 := kq.out.blk.cell 4 rfl
  have hlt := kq.out.lt
  have hbig := kq.out.big
  have hcl := clone_blk g L c (x.map (Value.int .u8)) W.drew HXq.out (by rw [List.length_map]; exact hEL.out) (by omega) (by omega) (fun u hu => by obtain ⟨n, -, rfl⟩ := List.mem_map.1 hu; rfl)
  obtain ⟨i0, hi, hi0, hi1, hi2⟩ := info_parts infoC33
  have hown : ∀ g', (Value.slice na nvs.length nc).ownBlock = some g' → g' ≠ h := fun g' e e2 => by have := (HSq.out.own e).1; omega
  go_region_law (first | (go_simp; go_at_call 70; refine hcl.mono ?_; rintro e w1 ⟨g2, c2, cs, rfl, hb, hg2, hB2, hc2⟩; have hs1 : W.heap.size ≤ w1.heap.size := hb.size; have bk1 := Blk.below (Blk.drew kq.out.blk) hb; have y1 := Blk.cell bk1 4 rfl; have bk2 := Blk.alloc bk1 (.cells #[.slice (some ⟨g2, 0, none⟩) L c2] 33); have y2 := Blk.cell bk2 4 rfl; have hS1 : SS (w1.alloc (.cells #[.slice (some ⟨g2, 0, none⟩) L c2] 33)) base 33 (.slice na nvs.length nc) nvs := HSq.out.fr (S := fun _ => False) ((Fr.of_below hb).alloc _) (fun _ _ h => h)) | (refine step_append_ss (by rfl) (.tmp 49) (.tmp 52) 49 (by rfl) 33 i0 (.slice none 0 0) 24 Try.underlying49 hi hi0 hi1 hi2 rfl base (.slice na nvs.length nc) nvs (by rfl) hS1 (by simp only [World.size_alloc]; omega) ⟨w1.heap.size, 0, none⟩ 1 (.slice (some ⟨g2, 0, none⟩) L c2) (by rfl) ((Blk.new w1 [.slice (some ⟨g2, 0, none⟩) L c2] 33).cell 0 rfl) rfl (by unfold maxLen; omega) (by omega) ?_; intro v' w5 hS5 hG hv; obtain ⟨a5, c5, rfl⟩ := hS5.shape; have bk5 := Blk.fr bk2 ((Fr.refl (fun q => (Value.slice na nvs.length nc).ownBlock = some q) _).grown hG (fun q e => .inl e)) (fun e => hown _ e rfl); have y5 := Blk.cell bk5 4 rfl; have y6 := Blk.frozen bk5 4))
  all_goals go_wp2
  all_goals go_ret
  all_goals obtain rfl := hEL.out
  all_goals simp only [List.length_append, List.length_singleton] at hS5 hv
  all_goals (have hp := put_done (w := W.drew) (x := x) (kq.out.drewN 1) hb HSq.out HNq.out hg2 hB2 hc2 hS5 hG hv)
  all_goals exact ⟨rfl, ⟨_, hp.1⟩, hFq.then_ hp.2⟩
end Go.Proofs.Ytadheikcgdhcdaa
