/-
  A hold: what wasn't sent is thrown away; all is; the messages behind a number.
-/
import Derived.Test.YtadheikcgdhcdaaRh
namespace Go.Proofs.Ytadheikcgdhcdaa
open Go.RowKit
set_option linter.unusedVariables false
set_option linter.unusedSimpArgs false

set_option maxRecDepth 100000 in
theorem HX.flush {w : World} {h : Nat} {m o f : Int} {sv nv : Value} {ss ns : List (List Int)} (k : HX w h m o f sv nv ss ns) :
    Calls Try.prog 33 #[.pointer (some ⟨h, 0, none⟩)] w fun e w' => e = .returned (.int .i64 ns.length) ∧ HX w' h m o f sv (.slice none 0 0) ss [] ∧ HF w w' h sv nv sv (.slice none 0 0) := by
  obtain ⟨svs, a1, a2⟩ := k.sl
  obtain ⟨nvs, b1, b2⟩ := k.nl
  obtain ⟨na, nc, rfl⟩ := b1.shape
  have hB := k.blk
  have c4 := hB.cell 4 rfl
  have f4 := hB.frozen 4
  have hl := b2.1
  have hF : Fr (fun q => q = h) w (w.setCell ⟨h, 4, none⟩ (.slice none 0 0)) := Fr.set1 w ⟨h, 4, none⟩ _
  have hB2 := (hB.set 4 (.slice none 0 0)).as (show _ = [.int .i64 m, .int .i64 o, sv, .int .u8 f, .slice none 0 0] from rfl)
  have hX : HX (w.setCell ⟨h, 4, none⟩ (.slice none 0 0)) h m o f sv (.slice none 0 0) ss [] := by
    refine ⟨hB2, ⟨svs, a1.fr hF (fun g hg e => ?_), a2.fr hF (fun g cs hG _ e => ?_)⟩, ⟨[], SS.nil _ _ _, ⟨rfl, fun i x hx => by simp at hx⟩⟩, fun g _ h2 => (by cases h2), k.fin, by have := k.cnt; simp only [List.length_nil]; omega, k.win, fun x hx => k.len x (.inl (hx.resolve_right (by simp)))⟩
    · obtain ⟨cs, q2⟩ := a1.own33 hg
      exact Blk.apart q2 hB (by decide) e
    · exact Blk.apart hG hB (by decide) e
  go_enter Try.func33, Try.ntmps33
  go_wp2
  go_ret
  refine ⟨by rw [hl]; rfl, hX, ⟨hF.mono (fun q e => .inl e), fun q hq => ?_⟩⟩
  rcases hq with e | e
  · exact .inl (.inl e)
  · cases e
set_option maxRecDepth 100000 in
theorem HX.clear {w : World} {h : Nat} {m o f : Int} {sv nv : Value} {ss ns : List (List Int)} (k : HX w h m o f sv nv ss ns) :
    Calls Try.prog 35 #[.pointer (some ⟨h, 0, none⟩)] w fun e w' => e = .returned (.tuple #[]) ∧ HX w' h m o 0 (.slice none 0 0) (.slice none 0 0) [] [] ∧ HF w w' h sv nv (.slice none 0 0) (.slice none 0 0) := by
  have hB := k.blk
  have c2 := hB.cell 2 rfl
  have c3 := hB.cell 3 rfl
  have c4 := hB.cell 4 rfl
  have f2 := hB.frozen 2
  have f3 := hB.frozen 3
  have f4 := hB.frozen 4
  have hB2 := ((hB.set 2 (.slice none 0 0)).set 4 (.slice none 0 0)).set 3 (.int .u8 0)
  have hB3 := hB2.as (show _ = [.int .i64 m, .int .i64 o, .slice none 0 0, .int .u8 0, .slice none 0 0] from rfl)
  have hF : Fr (fun q => q = h) w (((w.setCell ⟨h, 2, none⟩ (.slice none 0 0)).setCell ⟨h, 4, none⟩ (.slice none 0 0)).setCell ⟨h, 3, none⟩ (.int .u8 0)) := (((Fr.refl (fun q => q = h) w).setCell (p := ⟨h, 2, none⟩) (.inl rfl) _).setCell (p := ⟨h, 4, none⟩) (.inl rfl) _).setCell (p := ⟨h, 3, none⟩) (.inl rfl) _
  have hX := HX.empty hB3 ⟨Int.le_refl 0, by show (0 : Int) ≤ 127; omega⟩
  go_enter Try.func35, Try.ntmps35
  clear hB hB2
  go_wp2
  refine bodyPost_end (results_none rfl _ _ _) rfl ⟨rfl, hX, ⟨hF.mono (fun q e => .inl e), fun q hq => ?_⟩⟩
  rcases hq with e | e <;> cases e
theorem SS.capd {w : World} {base n c : Nat} {a : Option Addr} {e : TypeId} {vs : List Value} (h : SS w base e (.slice a n c) vs) : SS w base e (.slice a n n) vs := by
  rcases h with ⟨h, rfl⟩ | ⟨g, o, cap, cs, h0, hb, hB, h1, h2, h3, h4⟩
  · simp only [Value.slice.injEq] at h
    obtain ⟨rfl, rfl, rfl⟩ := h
    exact .inl ⟨rfl, rfl⟩
  · simp only [Value.slice.injEq] at h0
    obtain ⟨rfl, rfl, rfl⟩ := h0
    exact .inr ⟨g, o, vs.length, cs, rfl, hb, hB, Nat.le_refl _, by omega, by omega, h4⟩
theorem SS.base0 {w : World} {b : Nat} {e : TypeId} {v : Value} {vs : List Value} (h : SS w b e v vs) : SS w 0 e v vs := by
  rcases h with h | ⟨g, o, cap, cs, h0, hb, h2⟩
  · exact .inl h
  · exact .inr ⟨g, o, cap, cs, h0, Nat.zero_le _, h2⟩
theorem Msgs.app {w : World} {base : Nat} {vs vs2 : List Value} {xs xs2 : List (List Int)} (h : Msgs w base vs xs) (h2 : Msgs w base vs2 xs2) : Msgs w base (vs ++ vs2) (xs ++ xs2) := by
  refine ⟨by rw [List.length_append, List.length_append, h.1, h2.1], fun i x hx => ?_⟩
  by_cases hi : i < xs.length
  · rw [List.getElem?_append_left hi] at hx
    obtain ⟨g, c, cs, e1, e2⟩ := h.2 i x hx
    exact ⟨g, c, cs, by rw [List.getElem?_append_left (by rw [← h.1]; exact hi)]; exact e1, e2⟩
  · rw [List.getElem?_append_right (by omega)] at hx
    obtain ⟨g, c, cs, e1, e2⟩ := h2.2 _ x hx
    exact ⟨g, c, cs, by rw [List.getElem?_append_right (by rw [← h.1]; omega), ← h.1]; exact e1, e2⟩
theorem Msgs.below {w w' : World} {base : Nat} {vs : List Value} {xs : List (List Int)} (h : Msgs w base vs xs) (hb : Below w.heap.size w w') : Msgs w' base vs xs := h.fr (S := fun _ => False) (.of_below hb) (fun _ _ _ _ h => h)
/-- A row that is full grows by another one, in a step of a region that draws. -/
theorem step_appends {w : World} {ops : Array Oper} {o : Oper} {a : Act} {K : Act → World → Prop} {Q : Exit → Act → World → Prop} {E : Prop} (hg : o.guard = none) (s x : Operand)
    (hop : o.op = Op.call { callee := Callee.builtin Builtin.append, args := #[s, x], argTypes := #[49, 49] })
    (base b2 : Nat) (v v2 : Value) (vs vs2 : List Value) (hs : a.eval s = v) (hx : a.eval x = v2) (hv : SS w base 33 v vs) (hv2 : SS w b2 33 v2 vs2) (hfull : ∃ a, v = .slice a vs.length vs.length) (hbase : base ≤ w.heap.size)
    (h1 : ∀ y ∈ vs2, y.oneCell' = true) (hb1 : vs.length + vs2.length ≤ 3000)
    (hK : ∀ v' w', SS w' base 33 v' (vs ++ vs2) → Below w.heap.size w w' → (∀ g, v'.ownBlock = some g → v.ownBlock = some g ∨ w.heap.size ≤ g) → K (a.put o.dst v') w') :
    if Region.wanted o (yielded ops a.tmps) = true then Oper.wp Try.prog o a w K Q else E := by
  obtain ⟨i0, hi, hi0, hi1, hi2⟩ := info_parts infoC33
  obtain ⟨v', w', hrun, r1, r2, r3⟩ := hv.appends hv2 hfull hbase 49 o.type i0 (.slice none 0 0) Try.underlying49 hi hi0 hi1 (by omega) rfl h1 hb1
  have hw : Region.wanted o (yielded ops a.tmps) = true := by simp [Region.wanted, hg]
  rw [if_pos hw]
  unfold Oper.wp
  simp only [execOp, hop, resolve, invoke, builtin, Sem.run_bind, Sem.run_pure, Result.andThen_ok, List.map_toArray, List.map_cons, List.map_nil, hs, hx, hrun]
  exact hK v' w' r1 r2 r3
set_option maxRecDepth 100000 in
theorem HX.rest_no {w : World} {h : Nat} {m o f : Int} {sv nv : Value} {ss ns : List (List Int)} (k : HX w h m o f sv nv ss ns) (n : Int) (hn : 0 ≤ n ∧ n ≤ 255) (hk : knowsB f ss.length n = false) :
    Calls Try.prog 78 #[.pointer (some ⟨h, 0, none⟩), .int .u8 n] w fun e w' => e = .returned (.tuple #[.slice none 0 0, .int .i64 10]) ∧ ∃ q, w' = w.drewN q := by
  have hc := k.knows n hn
  rw [hk] at hc
  clear k
  go_enter Try.func78, Try.ntmps78
  go_wp2_with (go_at_call 72; refine hc.mono ?_; rintro e w' ⟨rfl, q, rfl⟩)
  refine bodyPost_ret (v := .tuple #[.slice none 0 0, .int .i64 10]) (by simp [results, Try.results78, go_sem]) rfl ⟨rfl, _, rfl⟩
set_option maxHeartbeats 4000000 in
set_option maxRecDepth 100000 in
theorem HX.rest_yes {w : World} {h : Nat} {m o f : Int} {sv nv : Value} {ss ns : List (List Int)} (k : HX w h m o f sv nv ss ns) (n : Int) (hn : 0 ≤ n ∧ n ≤ 255) (hk : knowsB f ss.length n = true) (i : Nat) (hi : (n - f + 1) % 128 = i) :
    Calls Try.prog 78 #[.pointer (some ⟨h, 0, none⟩), .int .u8 n] w fun e w' => ∃ vl ls, e = .returned (.tuple #[vl, .int .i64 0]) ∧ SS w' 0 33 vl ls ∧ Msgs w' 0 ls (ss.drop i ++ ns) ∧ Below w.heap.size w w' := by
  have hc := k.knows n hn
  rw [hk] at hc
  have hk2 : n < 128 ∧ (n - f + 1) % 128 ≤ ss.length := by simpa [knowsB] using hk
  obtain ⟨svs, hs1, hs2⟩ := k.sl
  obtain ⟨nvs, hn1, hn2⟩ := k.nl
  have hgap : (n - (f + 127) % 128) % 128 = (i : Int) := by omega
  have hcnt := k.cnt
  have hlen := k.len
  have hls := hs2.1
  have hln := hn2.1
  have hle : i ≤ svs.length := by omega
  have hB := k.blk
  obtain ⟨sa, sc, rfl⟩ := hs1.shape
  obtain ⟨na, nc, rfl⟩ := hn1.shape
  have hcap : svs.length ≤ sc ∧ sc ≤ maxLen := by
    obtain ⟨a', c', e, h1, h2⟩ := hs1.shape2
    simp only [Value.slice.injEq] at e
    obtain ⟨-, -, rfl⟩ := e
    exact ⟨h1, h2⟩
  clear k hk hi
  go_enter Try.func78, Try.ntmps78
  go_upto_region 4 with (go_at_call 72; refine hc.mono ?_; rintro e w' ⟨rfl, q, rfl⟩)
  have hB1 := hB.drewN q
  have hS1 : SS (w.drewN q) 0 33 (.slice sa svs.length sc) svs := hs1
  have hN1 : SS (w.drewN q) 0 33 (.slice na nvs.length nc) nvs := hn1
  have hM1 : Msgs (w.drewN q) 0 svs ss := hs2
  have hM2 : Msgs (w.drewN q) 0 nvs ns := hn2
  have hbW := below_drewN (Below.refl w.heap.size w) q
  clear hB hs1 hn1 hs2 hn2 hc
  generalize w.drewN q = X at *
  have c2 := hB1.cell 2 rfl
  have c3 := hB1.cell 3 rfl
  have c4 := hB1.cell 4 rfl
  go_upto_region 5 with fail
  have hSd : SS X.drew 0 33 (.slice (if svs.length = i then sa else Option.map (fun x => x.add i) sa) (svs.length - i) (svs.length - i)) (svs.drop i) := (show SS X.drew 0 33 (.slice sa svs.length sc) svs from hS1).capd.dropv i hle
  have hNd : SS X.drew 0 33 (.slice na nvs.length nc) nvs := hN1
  have hg73 := fun W => gap_any ((f + 127) % 128) n W
  rw [hgap] at hg73
  have hone : ∀ y ∈ nvs, y.oneCell' = true := fun y hy => hM2.one y hy
  have HL := Lib.hid (And.intro hlen (And.intro hls hln))
  have HM := Lib.hid (And.intro hM1 hM2)
  have hlv : (svs.drop i).length + nvs.length ≤ 3000 := by rw [List.length_drop]; omega
  have hfull : ∃ a, Value.slice (if svs.length = i then sa else Option.map (fun x => x.add i) sa) (svs.length - i) (svs.length - i) = .slice a (svs.drop i).length (svs.drop i).length := ⟨_, by rw [List.length_drop]⟩
  clear hlen hls hln hM1 hM2 hS1 hN1
  have hlh := hB1.lt
  go_region_held3 (fun w' => w'.cell? ⟨h, 2, none⟩ = some (.slice sa svs.length sc) ∧ w'.cell? ⟨h, 3, none⟩ = some (.int .u8 f) ∧ w'.cell? ⟨h, 4, none⟩ = some (.slice na nvs.length nc)) (go_keep) (first | (go_simp; go_at_call 74; refine (prev_any _ _).mono ?_; rintro e w1 ⟨rfl, rfl⟩) | (go_simp; go_at_call 73; refine (hg73 _).mono ?_; rintro e w1 ⟨rfl, rfl⟩) | (refine step_appends (by rfl) (.tmp 32) (.tmp 36) (by rfl) 0 0 _ _ (svs.drop i) nvs (by rfl) (by rfl) hSd hNd hfull (Nat.zero_le _) hone hlv ?_; intro v' w5 r1 r2 r3; obtain ⟨a5, c5, rfl, q1, q2⟩ := r1.shape2; have y2 := (r2.cell (p := ⟨h, 2, none⟩) hlh).trans c2; have y3 := (r2.cell (p := ⟨h, 3, none⟩) hlh).trans c3; have y4 := (r2.cell (p := ⟨h, 4, none⟩) hlh).trans c4))
  have hX5 : Below X.heap.size X w5 := ⟨r2.os, r2.tape, r2.output, r2.size, r2.block⟩
  have hMT : Msgs w5 0 (svs.drop i ++ nvs) (ss.drop i ++ ns) := ((HM.out.1.drop i).app HM.out.2).below hX5
  have hLn : ∀ x ∈ ss.drop i ++ ns, 3 ≤ x.length ∧ x.length ≤ 273 := fun x hx => by
    rcases List.mem_append.1 hx with e | e
    · exact HL.out.1 x (.inl (List.mem_of_mem_drop e))
    · exact HL.out.1 x (.inr e)
  have hlT : (svs.drop i ++ nvs).length = (svs.length - i) + nvs.length := by simp
  have hlT2 : (svs.length - i) + nvs.length ≤ 1000 := by have := HL.out.2; omega
  have hbF := (hbW.trans (hX5.mono hbW.size))
  clear hX5 HM HL hSd hNd hone hlv hfull hg73 c2 c3 c4 y2 y3 y4 r2 r3 hB1 hbW hlh
  generalize svs.drop i ++ nvs = T at *
  obtain ⟨L, hLL⟩ : ∃ L, ss.drop i ++ ns = L := ⟨_, rfl⟩
  rw [hLL] at hMT hLn
  have HLL := Lib.hid hLL
  clear hLL
  obtain ⟨N, hN⟩ : ∃ N, svs.length - i + nvs.length = N := ⟨_, rfl⟩
  have hNi : ((svs.length - i : Nat) : Int) + (nvs.length : Int) = (N : Int) := by omega
  rw [hN] at hlT hlT2
  rw [hNi, hlT]
  rw [hlT] at r1
  have HT := Lib.hid (And.intro hlT (And.intro hMT hLn))
  clear hlT hMT hLn hN hNi
  generalize Value.slice (if svs.length = i then sa else Option.map (fun x => x.add i) sa) (svs.length - i) (svs.length - i) = vq
  go_wp2_with fail
  go_loopw [6, 39] (fun l j wr => ∃ (kk : Nat) (lv : List Value), kk ≤ N ∧ j = .int .i64 kk ∧ SS wr w5.heap.size 33 l lv ∧ Msgs wr 0 lv (L.take kk) ∧ Below w5.heap.size w5 wr) (fun _ j _ => N - (intOf j).toNat)
  case atStart => exact ⟨0, [], Nat.zero_le _, rfl, SS.nil _ _ _, ⟨rfl, fun i x hx => by simp at hx⟩, Below.refl _ _⟩
  case round =>
    obtain ⟨kk, lv, hkk, rfl, hl1, hl2, hl3⟩ := hrel
    have hlv := hl2.1
    rw [List.length_take] at hlv
    by_cases hlt : kk < N
    · have hltI : (kk : Int) < (N : Int) := by omega
      have hLl : L.length = N := by have := HT.out.2.1.1; have := HT.out.1; omega
      obtain ⟨x, hx⟩ : ∃ x, L[kk]? = some x := ⟨_, List.getElem?_eq_getElem (by omega)⟩
      obtain ⟨g, c, cs, e1, -, hBg, hcs⟩ := HT.out.2.1.2 kk x hx
      obtain ⟨g5, o5, cap5, e5, hc5⟩ := r1.cell kk _ e1
      rw [HT.out.1] at e5
      simp only [Value.slice.injEq] at e5
      obtain ⟨rfl, -, rfl⟩ := e5
      have hx3 := HT.out.2.2 x (List.mem_of_getElem? hx)
      have hc6 := (hl3.cell (p := ⟨g5, o5 + kk, none⟩) (World.block_lt_of_cell? _ _ hc5)).trans hc5
      have hBr : Blk wr g cs 5 := by
        have := hBg.lt
        unfold Blk at hBg ⊢
        rw [hl3.block _ this]
        exact hBg
      have hcl := clone_blk g x.length c (x.map (Value.int .u8)) wr (fun j u hj => hBr.cell j (hcs j u hj)) (by rw [List.length_map]) (by omega) (by omega) (fun u hu => by obtain ⟨n, -, rfl⟩ := List.mem_map.1 hu; rfl)
      have hw9 : IntKind.i64.wrap ((kk : Int) + 1) = ((kk + 1 : Nat) : Int) := by rw [wrapH _ (by omega)]; omega
      have htk := take_snoc L kk x hx
      have HK := Lib.hid (And.intro htk hcs)
      obtain ⟨ln, hln⟩ : ∃ ln, x.length = ln := ⟨_, rfl⟩
      rw [hln] at hcl hx3 hc6
      have HLN := Lib.hid hln
      clear e1 hBg hcs hx hc5 hBr htk hln
      obtain ⟨la, lc, rfl⟩ := hl1.shape
      go_wp2_with fail
      refine hcl.mono ?_
      rintro e w6 ⟨g2, cc2, cs2, rfl, hb6, hg2, hB2, hcs2⟩
      have ha : Below w6.heap.size w6 (w6.alloc (.cells #[.slice (some ⟨g2, 0, none⟩) ln cc2] 33)) := (Below.refl _ _).alloc (Nat.le_refl _) _
      have hcell : (w6.alloc (.cells #[.slice (some ⟨g2, 0, none⟩) ln cc2] 33)).cell? ⟨w6.heap.size, 0, none⟩ = some (.slice (some ⟨g2, 0, none⟩) ln cc2) := (Blk.new w6 [.slice (some ⟨g2, 0, none⟩) ln cc2] 33).cell 0 rfl
      have hr67 := bthen hb6 ha
      have hl4 := hl1.fr (S := fun _ => False) (.of_below hr67) (fun _ _ h => h)
      have hM4 := hl2.below hr67
      have hB4 := hB2.below ha
      have hF4 : Below w5.heap.size w5 _ := hl3.trans (hr67.mono hl3.size)
      have hbase : w5.heap.size ≤ (w6.alloc (.cells #[.slice (some ⟨g2, 0, none⟩) ln cc2] 33)).heap.size := hF4.size
      clear hcl hl1 hl2 hl3 hb6 hB2 ha hr67 hc6
      go_wp2_with (first | (at_builtin; refine wpList_append_one (by rfl) (.tmp 43) (.tmp 46) (by rfl) w5.heap.size _ lv (by rfl) hl4 hbase ⟨w6.heap.size, 0, none⟩ 1 (.slice (some ⟨g2, 0, none⟩) ln cc2) (by rfl) hcell rfl (by omega) ?_; intro v8 w8 r4 r5 r6) | fail)
      have hown : ∀ q, (Value.slice la lv.length lc).ownBlock = some q → w5.heap.size ≤ q ∧ ∃ cs, Blk (w6.alloc (.cells #[.slice (some ⟨g2, 0, none⟩) ln cc2] 33)) q cs 33 := fun q e => ⟨(hl4.own e).1, hl4.own33 e⟩
      have hF8 : Fr (fun q => (Value.slice la lv.length lc).ownBlock = some q) (w6.alloc (.cells #[.slice (some ⟨g2, 0, none⟩) ln cc2] 33)) w8 := ⟨r5.os, r5.tape, r5.output, r5.size, fun k hk hn => r5.block k hk (fun e => hn e.symm)⟩
      have hap : ∀ g cs, Blk (w6.alloc (.cells #[.slice (some ⟨g2, 0, none⟩) ln cc2] 33)) g cs 5 → ¬ (Value.slice la lv.length lc).ownBlock = some g := fun g cs hG e => by
        obtain ⟨-, ds, hd⟩ := hown g e
        exact Blk.apart hG hd (by decide) rfl
      have hM8 := (hM4.fr hF8 (fun g cs hG _ => hap g cs hG)).snoc (c := cc2) (Nat.zero_le g2) (hB4.fr hF8 (hap _ _ hB4)) hcs2
      rw [← HK.out.1, HLN.out] at hM8
      exact ⟨⟨kk + 1, _, by omega, rfl, r4, hM8, hF4.trans (hF8.below hF4.size (fun q e => (hown q e).1))⟩, by simp [intOf]; omega⟩
    · have hkN : kk = N := by omega
      subst hkN
      have hfin : L.take kk = L := List.take_of_length_le (by have := HT.out.2.1.1; have := HT.out.1; omega)
      rw [hfin] at hl2
      go_wp2
      refine bodyPost_ret (v := .tuple #[_, .int .i64 0]) (by simp [results, Try.results78, go_sem]) rfl ⟨_, lv, rfl, hl1.base0, by rw [HLL.out]; exact hl2, hbF.trans (hl3.mono hbF.size)⟩
end Go.Proofs.Ytadheikcgdhcdaa
