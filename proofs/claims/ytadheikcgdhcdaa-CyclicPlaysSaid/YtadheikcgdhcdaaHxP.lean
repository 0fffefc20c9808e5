/-
  One more is put, in all cases.
-/
import Derived.Test.YtadheikcgdhcdaaHxF
namespace Go.Proofs.Ytadheikcgdhcdaa
open Go.RowKit
set_option linter.unusedVariables false
set_option linter.unusedSimpArgs false

/-- A clone, whole: its block is one of octets. -/
theorem clone_ad (ad : Addr) (n c : Nat) (xs : List Value) (w : World) (hx : ∀ j u, xs[j]? = some u → w.cell? (ad.add j) = some u) (hl : xs.length = n) (h : 0 < n) (hm : n ≤ 400) (h1 : ∀ u ∈ xs, u.oneCell' = true) :
    Calls Try.prog 70 #[.slice (some ad) n c] w fun e w' => ∃ (g' c' : Nat) (cs : List Value), e = .returned (.slice (some ⟨g', 0, none⟩) n c') ∧ Below w.heap.size w w' ∧ w.heap.size ≤ g' ∧ Blk w' g' cs 5 ∧ (∀ (j : Nat) (u : Value), xs[j]? = some u → cs[j]? = some u) := by
  have hB : Below w.heap.size w (w.alloc (.cells #[] 5)) := (Below.refl _ _).alloc (Nat.le_refl _) _
  have hX : Hid (∀ j u, xs[j]? = some u → (w.alloc (.cells #[] 5)).cell? (ad.add j) = some u) := Lib.hid (fun j u hj => by
    have := hx j u hj
    rw [World.cell?_alloc_lt _ _ _ (World.block_lt_of_cell? _ _ this)]; exact this)
  obtain ⟨i0, hi, hz0, hz1, hz2⟩ := info_parts infoC5
  have hq := eq_nil ad n c w
  have HL := Lib.hid hl
  have H1 := Lib.hid h1
  clear hx hl h1
  go_enter Try.func70, Try.ntmps70
  go_wp2_with (refine wpList_append_grows _ rfl (.tmp 5) (.tmp 6) 33 rfl 5 i0 (.int .u8 0) 1 1 Try.underlying33 hi hz0 hz1 hz2 rfl (by decide) (some ⟨w.heap.size, 0, none⟩) 0 0 [] rfl (fun h => by cases h) rfl (fun b hb j u hj => by cases hj) ad n c xs rfl (by rw [HL.out]; omega) hX.out H1.out (by omega) (by unfold maxLen; omega) (by omega) ?_; intro v' w' hown hgr)
  rw [Nat.zero_add, List.nil_append] at hown
  obtain ⟨g', c', rfl, hg, -⟩ := hown.form h
  refine bodyPost_ret (v := .slice (some ⟨g', 0, none⟩) n c') (by simp [results, Try.results70, go_sem]) rfl ?_
  have hsz : w.heap.size ≤ g' := by simp only [World.size_alloc] at hg; omega
  rcases SS.of_own hown with h0 | ⟨g2, o2, cap2, cs, h0, hb2, hB2, q1, q2, q3, q4⟩
  · exact absurd h0.1 (by simp)
  · simp only [Value.slice.injEq, Option.some.injEq, Addr.mk.injEq] at h0
    obtain ⟨⟨rfl, rfl, _⟩, _, rfl⟩ := h0
    refine ⟨g', c', cs, rfl, hB.trans (((Fr.refl (fun _ => False) _).grown hgr (by simp)).below hB.size (by simp)), hsz, hB2, fun j u hj => ?_⟩
    have hjl := (List.getElem?_eq_some_iff.1 hj).1
    have := q4 j hjl
    rw [Nat.zero_add] at this
    rw [this]; exact hj


/-- A slice of octets, wherever it lies. -/
def Oct (w : World) (v : Value) (x : List Int) : Prop := ∃ a c, v = .slice a x.length c ∧ ∀ (j : Nat) (u : Value), (x.map (Value.int .u8))[j]? = some u → ∃ ad, a = some ad ∧ w.cell? (ad.add j) = some u
theorem HX.octets {w : World} {h : Nat} {m o f : Int} {sv nv : Value} {ss ns : List (List Int)} (k : HX w h m o f sv nv ss ns) :
    Calls Try.prog 69 #[.pointer (some ⟨h, 0, none⟩)] w fun e w' => e = .returned (.int .i64 (octs ss + octs ns)) ∧ ∃ n, w' = w.drewN n := by
  have c2 := k.blk.cell 2 rfl
  have c4 := k.blk.cell 4 rfl
  obtain ⟨svs, hs1, hs2⟩ := k.sl
  obtain ⟨nvs, hn1, hn2⟩ := k.nl
  have hc := k.cnt
  have h3s : ∀ x ∈ ss, x.length ≤ 300 := fun x hx => by have := k.len x (.inl hx); omega
  have h3n : ∀ x ∈ ns, x.length ≤ 300 := fun x hx => by have := k.len x (.inr hx); omega
  have q1 : ∀ n, Calls Try.prog 86 #[sv] (w.drewN n) fun e w' => e = .returned (.int .i64 (octs ss)) ∧ w' = w.drewN n := fun n => size_of (w := w.drewN n) hs1 hs2 (by omega) h3s
  have q2 : ∀ n, Calls Try.prog 86 #[nv] (w.drewN n) fun e w' => e = .returned (.int .i64 (octs ns)) ∧ w' = w.drewN n := fun n => size_of (w := w.drewN n) hn1 hn2 (by omega) h3n
  have d1 := octs_bd ss h3s
  have d2 := octs_bd ns h3n
  have hw : IntKind.i64.wrap (octs ss + octs ns) = octs ss + octs ns := wrapH _ (by omega)
  generalize octs ss = a at *
  generalize octs ns = b at *
  clear k hs1 hs2 hn1 hn2 d1 d2 h3s h3n
  go_enter Try.func69, Try.ntmps69
  go_upto_region 3 with fail
  go_quiet (first | (go_at_call_of 86 sv; exact Calls.quiet_of_same (q1 _)) | (go_at_call_of 86 nv; exact Calls.quiet_of_same (q2 _)))
  go_wp2
  go_ret
  exact ⟨rfl, _, rfl⟩

/-- Behind the append and the store: the hold with one more. -/
theorem HX.put_done {h g2 c2 : Nat} {m o f : Int} {sv nv v' : Value} {ss ns : List (List Int)} {w w1 w5 : World} {ob : Obj} {x : List Int} {cs nvs : List Value} (k : HX w h m o f sv nv ss ns) (hb1 : Below w.heap.size w w1)
    (hn1 : SS w 0 33 nv nvs) (hn2 : Msgs w 0 nvs ns) (hg2 : w.heap.size ≤ g2) (hB2 : Blk w1 g2 cs 5) (hc : ∀ (j : Nat) (u : Value), (x.map (Value.int .u8))[j]? = some u → cs[j]? = some u)
    (hS : SS w5 0 33 v' (nvs ++ [.slice (some ⟨g2, 0, none⟩) x.length c2])) (hG : (w1.alloc ob).grownBy w5 nv.ownBlock) (hv : ∀ g, v'.ownBlock = some g → nv.ownBlock = some g ∨ (w1.alloc ob).heap.size ≤ g) (hl : 3 ≤ x.length ∧ x.length ≤ 273) (hcnt : ss.length + ns.length < 1000) :
    HX (w5.setCell ⟨h, 4, none⟩ v') h m o f sv v' ss (ns ++ [x]) ∧ HF w (w5.setCell ⟨h, 4, none⟩ v') h sv nv sv v' := by
  have hs1 := hb1.size
  have hsz := k.blk.lt
  have hne : ∀ {q : Nat}, Ro sv nv q → q ≠ h := fun hq => by obtain ⟨ds, hd⟩ := k.row33 hq; exact hd.apart k.blk (by decide)
  have hlt : ∀ {q : Nat}, Ro sv nv q → q < w.heap.size := fun hq => by obtain ⟨ds, hd⟩ := k.row33 hq; exact hd.lt
  have hFa : Fr (fun _ => False) w (w1.alloc ob) := (Fr.of_below hb1).alloc ob
  have hFg : Fr (fun q => nv.ownBlock = some q) (w1.alloc ob) w5 := (Fr.refl _ _).grown hG (fun q e => .inl e)
  have hF5 : Fr (fun q => nv.ownBlock = some q) w w5 := (hFa.mono (fun _ h => h.elim)).then_ hFg
  have hFs : Fr (fun q => q = h) w5 (w5.setCell ⟨h, 4, none⟩ v') := Fr.set1 w5 ⟨h, 4, none⟩ v'
  have hFall : Fr (fun q => nv.ownBlock = some q ∨ q = h) w (w5.setCell ⟨h, 4, none⟩ v') := (hF5.mono (fun _ h => .inl h)).then_ (hFs.mono (fun _ h => .inr h))
  have hno : ∀ g cs, Blk w g cs 5 → 0 ≤ g → ¬ (nv.ownBlock = some g ∨ g = h) := by
    rintro g cs hG _ (e | e)
    · obtain ⟨ds, hd⟩ := k.row33 (.inr e); exact hG.apart hd (by decide) rfl
    · exact hG.apart k.blk (by decide) e
  have hv' : ∀ g, v'.ownBlock = some g → nv.ownBlock = some g ∨ w.heap.size ≤ g := fun g hg => by
    rcases hv g hg with e | e
    · exact .inl e
    · right; simp only [World.size_alloc] at e; omega
  obtain ⟨svs, hs1', hs2'⟩ := k.sl
  refine ⟨⟨?_, ⟨svs, hs1'.fr hFall ?_, hs2'.fr hFall hno⟩, ⟨_, hS.fr hFs ?_, ?_⟩, ?_, k.fin, ?_, k.win, ?_⟩, ⟨hFall.mono ?_, fun q hq => ?_⟩⟩
  · exact (k.blk.fr hF5 (fun e => hne (.inr e) rfl)).set 4 v'
  · rintro g hg (e | e)
    · exact k.sep g hg e
    · exact hne (.inl hg) e
  · intro g hg e
    rcases hv' g hg with e2 | e2
    · exact hne (.inr e2) e
    · omega
  · have hB5 : Blk (w5.setCell ⟨h, 4, none⟩ v') g2 cs 5 := by
      have ha : Blk (w1.alloc ob) g2 cs 5 := hB2.alloc ob
      refine (ha.fr hFg (fun e => ?_)).fr hFs (fun e => by omega)
      have := hlt (.inr e); omega
    exact (hn2.fr hFall hno).snoc (Nat.zero_le _) hB5 hc
  · intro g hg1 hg2'
    rcases hv' g hg2' with e | e
    · exact k.sep g hg1 e
    · have := hlt (.inl hg1); omega
  · simp only [List.length_append, List.length_singleton]; omega
  · rintro y (hy | hy)
    · exact k.len y (.inl hy)
    · rcases List.mem_append.1 hy with hy | hy
      · exact k.len y (.inr hy)
      · rw [List.mem_singleton.1 hy]; exact hl
  · rintro q (e | e)
    · exact .inr (.inr e)
    · exact .inl e
  · rcases hq with e | e
    · exact .inl (.inl e)
    · rcases hv' q e with e | e
      · exact .inl (.inr e)
      · exact .inr e

set_option maxHeartbeats 4000000 in
theorem HX.put_room {h : Nat} {m o f : Int} {sv nv : Value} {ss ns : List (List Int)} {w : World} (k : HX w h m o f sv nv ss ns) (ad : Addr) (c : Nat) (x : List Int) (hx : ∀ (j : Nat) (u : Value), (x.map (Value.int .u8))[j]? = some u → w.cell? (ad.add j) = some u)
    (hl : 3 ≤ x.length ∧ x.length ≤ 273) (hr : (ss.length : Int) + ns.length < m) (ho : octs ss + octs ns + x.length ≤ o) (hm : m ≤ 1000) :
    Calls Try.prog 21 #[.pointer (some ⟨h, 0, none⟩), .slice (some ad) x.length c] w fun e w' => e = .returned (.int .i64 0) ∧ ∃ nv', HX w' h m o f sv nv' ss (ns ++ [x]) ∧ HF w w' h sv nv sv nv' := by
  have hb : ss.length + ns.length < 1000 := by omega
  have h3s : ∀ x ∈ ss, x.length ≤ 300 := fun x hx => by have := k.len x (.inl hx); omega
  have h3n : ∀ x ∈ ns, x.length ≤ 300 := fun x hx => by have := k.len x (.inr hx); omega
  have hne : ∀ {q : Nat}, Ro sv nv q → q ≠ h := fun hq => by obtain ⟨ds, hd⟩ := k.row33 hq; exact hd.apart k.blk (by decide)
  have c0 := k.blk.cell 0 rfl
  have c1 := k.blk.cell 1 rfl
  have c2 := k.blk.cell 2 rfl
  have c4 := k.blk.cell 4 rfl
  obtain ⟨svs, hs1, hs2⟩ := k.sl
  obtain ⟨nvs, hn1, hn2⟩ := k.nl
  obtain ⟨sa, sc, rfl⟩ := hs1.shape
  obtain ⟨na, nc, rfl⟩ := hn1.shape
  have hoc := fun n => (k.drewN n).octets
  have d1 := octs_bd ss h3s
  have d2 := octs_bd ns h3n
  have es := hs2.1
  have en := hn2.1
  obtain ⟨L, hL⟩ : ∃ L, x.length = L := ⟨_, rfl⟩
  obtain ⟨q, hq⟩ : ∃ q, octs ss + octs ns = q := ⟨_, rfl⟩
  have hw1 : IntKind.i64.wrap ((svs.length : Int) + nvs.length) = (svs.length : Int) + nvs.length := wrapH _ (by omega)
  have hw2 : IntKind.i64.wrap (q + (L : Int)) = q + L := wrapH _ (by omega)
  have g1 : ¬ ((L : Int) < 3) := by omega
  have g2 : ¬ ((273 : Int) < L) := by omega
  have g3 : ¬ (m ≤ (svs.length : Int) + nvs.length) := by omega
  have g4 : ¬ (o < q + (L : Int)) := by omega
  have hnl : nvs.length ≤ 1000 := by omega
  have HX := Lib.hid hx
  have HK := Lib.hid k
  have HS := Lib.hid hn1
  have HN := Lib.hid hn2
  have hL3 : 3 ≤ L ∧ L ≤ 273 := by omega
  have hEL := Lib.hid hL
  simp only [hq] at hoc
  rw [hL]
  have HN0 : Hid (∀ {q : Nat}, Ro (.slice sa svs.length sc) (.slice na nvs.length nc) q → q ≠ h) := Lib.hid hne
  have hnb := Lib.hid hb
  have hl2 := Lib.hid hl
  clear hs1 hs2 hn1 hn2 k hx hl hr ho d1 d2 hq hb h3s h3n es en hL hne
  go_enter Try.func21, Try.ntmps21
  go_upto_region 7 with fail
  go_quiet ((go_at_call 69; exact Calls.quiet_of (hoc _)))
  go_upto_region 9 with fail
  have kq := Lib.hid (HK.out.drewN nq)
  have HXq : Hid (∀ (j : Nat) (u : Value), (x.map (Value.int .u8))[j]? = some u → (w.drewN nq).drew.cell? (ad.add j) = some u) := HX
  have HSq : Hid (SS (w.drewN nq).drew 0 33 (.slice na nvs.length nc) nvs) := HS
  have HNq : Hid (Msgs (w.drewN nq).drew 0 nvs ns) := HN
  have hFq : HF w (w.drewN nq).drew h (.slice sa svs.length sc) (.slice na nvs.length nc) (.slice sa svs.length sc) (.slice na nvs.length nc) := ⟨((Fr.refl _ w).drewN nq).drew, fun _ h => .inl h⟩
  clear HX HK HS HN c0 c1 c2 c4 hoc
  generalize w.drewN nq = W at kq HXq HSq HNq hFq ⊢
  have c4 := kq.out.blk.cell 4 rfl
  have hcl := clone_ad ad L c (x.map (Value.int .u8)) W.drew HXq.out (by rw [List.length_map]; exact hEL.out) (by omega) (by omega) (fun u hu => by obtain ⟨n, -, rfl⟩ := List.mem_map.1 hu; rfl)
  obtain ⟨i0, hi, hi0, hi1, hi2⟩ := info_parts infoC33
  have hown : ∀ g', (Value.slice na nvs.length nc).ownBlock = some g' → g' ≠ h := fun g' e => HN0.out (.inr e)
  go_region_law (first | (go_simp; go_at_call 70; refine hcl.mono ?_; rintro e w1 ⟨g2, c2, cs, rfl, hb, hg2, hB2, hc2⟩; have hs1 : W.heap.size ≤ w1.heap.size := hb.size; have bk1 := Blk.below (Blk.drew kq.out.blk) hb; have y1 := Blk.cell bk1 4 rfl; have bk2 := Blk.alloc bk1 (.cells #[.slice (some ⟨g2, 0, none⟩) L c2] 33); have y2 := Blk.cell bk2 4 rfl; have hS1 : SS (w1.alloc (.cells #[.slice (some ⟨g2, 0, none⟩) L c2] 33)) 0 33 (.slice na nvs.length nc) nvs := HSq.out.fr (S := fun _ => False) ((Fr.of_below hb).alloc _) (fun _ _ h => h)) | (refine step_append_ss (by rfl) (.tmp 49) (.tmp 52) 49 (by rfl) 33 i0 (.slice none 0 0) 24 Try.underlying49 hi hi0 hi1 hi2 rfl 0 (.slice na nvs.length nc) nvs (by rfl) hS1 (Nat.zero_le _) ⟨w1.heap.size, 0, none⟩ 1 (.slice (some ⟨g2, 0, none⟩) L c2) (by rfl) ((Blk.new w1 [.slice (some ⟨g2, 0, none⟩) L c2] 33).cell 0 rfl) rfl (by unfold maxLen; omega) (by omega) ?_; intro v' w5 hS5 hG hv; obtain ⟨a5, c5, rfl⟩ := hS5.shape; have bk5 := Blk.fr bk2 ((Fr.refl (fun q => (Value.slice na nvs.length nc).ownBlock = some q) _).grown hG (fun q e => .inl e)) (fun e => hown _ e rfl); have y5 := Blk.cell bk5 4 rfl; have y6 := Blk.frozen bk5 4))
  all_goals go_wp2
  all_goals go_ret
  all_goals obtain rfl := hEL.out
  all_goals simp only [List.length_append, List.length_singleton] at hS5 hv
  all_goals (have hp := HX.put_done (w := W.drew) (x := x) (kq.out.drewN 1) hb HSq.out HNq.out hg2 hB2 hc2 hS5 hG hv hl2.out hnb.out)
  all_goals exact ⟨rfl, _, hp.1, hFq.trans hp.2⟩

/-- The three refusals. -/
theorem HX.put_short {h : Nat} {m o f : Int} {sv nv : Value} {ss ns : List (List Int)} {w : World} (k : HX w h m o f sv nv ss ns) (a : Option Addr) (n c : Nat) (hn : n < 3) :
    Calls Try.prog 21 #[.pointer (some ⟨h, 0, none⟩), .slice a n c] w fun e w' => e = .returned (.int .i64 5) ∧ w' = w := by
  have g1 : (n : Int) < 3 := by omega
  clear k
  go_enter Try.func21, Try.ntmps21
  go_wp2
  go_ret
  exact ⟨rfl, rfl⟩
theorem HX.put_long {h : Nat} {m o f : Int} {sv nv : Value} {ss ns : List (List Int)} {w : World} (k : HX w h m o f sv nv ss ns) (a : Option Addr) (n c : Nat) (hn : 273 < n) :
    Calls Try.prog 21 #[.pointer (some ⟨h, 0, none⟩), .slice a n c] w fun e w' => e = .returned (.int .i64 6) ∧ w' = w := by
  have g1 : ¬ ((n : Int) < 3) := by omega
  have g2 : (273 : Int) < n := by omega
  clear k
  go_enter Try.func21, Try.ntmps21
  go_wp2
  go_ret
  exact ⟨rfl, rfl⟩
theorem HX.put_full {h : Nat} {m o f : Int} {sv nv : Value} {ss ns : List (List Int)} {w : World} (k : HX w h m o f sv nv ss ns) (a : Option Addr) (n c : Nat) (hn : 3 ≤ n ∧ n ≤ 273) (hf : m ≤ (ss.length : Int) + ns.length ∨ o < octs ss + octs ns + n) :
    Calls Try.prog 21 #[.pointer (some ⟨h, 0, none⟩), .slice a n c] w fun e w' => e = .returned (.int .i64 3) ∧ ∃ q, w' = w.drewN q := by
  have g1 : ¬ ((n : Int) < 3) := by omega
  have g2 : ¬ ((273 : Int) < n) := by omega
  have c0 := k.blk.cell 0 rfl
  have c1 := k.blk.cell 1 rfl
  have c2 := k.blk.cell 2 rfl
  have c4 := k.blk.cell 4 rfl
  obtain ⟨svs, hs1, hs2⟩ := k.sl
  obtain ⟨nvs, hn1, hn2⟩ := k.nl
  obtain ⟨sa, sc, rfl⟩ := hs1.shape
  obtain ⟨na, nc, rfl⟩ := hn1.shape
  have hoc := fun n => (k.drewN n).octets
  have h3s : ∀ x ∈ ss, x.length ≤ 300 := fun x hx => by have := k.len x (.inl hx); omega
  have h3n : ∀ x ∈ ns, x.length ≤ 300 := fun x hx => by have := k.len x (.inr hx); omega
  have d1 := octs_bd ss h3s
  have d2 := octs_bd ns h3n
  have hcnt := k.cnt
  rw [hs2.1, hn2.1] at hf
  have es := hs2.1
  have en := hn2.1
  obtain ⟨q, hq⟩ : ∃ q, octs ss + octs ns = q := ⟨_, rfl⟩
  have hw1 : IntKind.i64.wrap ((svs.length : Int) + nvs.length) = (svs.length : Int) + nvs.length := wrapH _ (by omega)
  have hw2 : IntKind.i64.wrap (q + (n : Int)) = q + n := wrapH _ (by omega)
  simp only [hq] at hoc hf
  clear k hs1 hs2 hn1 hn2 h3s h3n d1 d2 es en hq hcnt
  by_cases hb : m ≤ (svs.length : Int) + nvs.length
  · clear hf
    go_enter Try.func21, Try.ntmps21
    go_upto_region 7 with fail
    go_quiet ((go_at_call 69; exact Calls.quiet_of (hoc _)))
    go_wp2
    go_ret
    exact ⟨rfl, _, rfl⟩
  · have hb2 : o < q + (n : Int) := by omega
    clear hf
    go_enter Try.func21, Try.ntmps21
    go_upto_region 7 with fail
    go_quiet ((go_at_call 69; exact Calls.quiet_of (hoc _)))
    go_wp2
    go_ret
    exact ⟨rfl, _, rfl⟩

/-- What Put answers. -/
def putCode (m o : Int) (ss ns : List (List Int)) (n : Nat) : Int := if n < 3 then 5 else if 273 < n then 6 else if m ≤ (ss.length : Int) + ns.length ∨ o < octs ss + octs ns + n then 3 else 0
theorem HX.put {h : Nat} {m o f : Int} {sv nv : Value} {ss ns : List (List Int)} {w : World} (k : HX w h m o f sv nv ss ns) (v : Value) (x : List Int) (hx : Oct w v x) (hm : m ≤ 1000) :
    Calls Try.prog 21 #[.pointer (some ⟨h, 0, none⟩), v] w fun e w' => e = .returned (.int .i64 (putCode m o ss ns x.length)) ∧ ∃ nv', HX w' h m o f sv nv' ss (if putCode m o ss ns x.length = 0 then ns ++ [x] else ns) ∧ HF w w' h sv nv sv nv' := by
  obtain ⟨a, c, rfl, hc⟩ := hx
  unfold putCode
  by_cases h1 : x.length < 3
  · simp only [if_pos h1]
    refine (k.put_short a x.length c h1).mono ?_
    rintro e w' ⟨rfl, rfl⟩
    exact ⟨rfl, nv, by simpa using k, HF.refl _ _ _ _⟩
  · simp only [if_neg h1]
    by_cases h2 : 273 < x.length
    · simp only [if_pos h2]
      refine (k.put_long a x.length c h2).mono ?_
      rintro e w' ⟨rfl, rfl⟩
      exact ⟨rfl, nv, by simpa using k, HF.refl _ _ _ _⟩
    · simp only [if_neg h2]
      by_cases h3 : m ≤ (ss.length : Int) + ns.length ∨ o < octs ss + octs ns + x.length
      · simp only [if_pos h3]
        refine (k.put_full a x.length c ⟨by omega, by omega⟩ h3).mono ?_
        rintro e w' ⟨rfl, q, rfl⟩
        exact ⟨rfl, nv, by simpa using k.drewN q, (HF.refl _ _ _ _).drewN q⟩
      · simp only [if_neg h3]
        obtain ⟨u, hu⟩ : ∃ u, (x.map (Value.int .u8))[0]? = some u := ⟨_, List.getElem?_eq_getElem (by simp; omega)⟩
        obtain ⟨ad, rfl, -⟩ := hc 0 u hu
        refine (k.put_room ad c x (fun j u hj => by obtain ⟨ad', h, h2⟩ := hc j u hj; cases h; exact h2) ⟨by omega, by omega⟩ (by omega) (by omega) hm).mono ?_
        rintro e w' ⟨rfl, nv', r1, r2⟩
        exact ⟨rfl, nv', by simpa using r1, r2⟩
end Go.Proofs.Ytadheikcgdhcdaa
