/-
  The next one is sent, in all cases; what a hold tells.
-/
import Derived.Test.YtadheikcgdhcdaaHxP
namespace Go.Proofs.Ytadheikcgdhcdaa
open Go.RowKit
set_option linter.unusedVariables false
set_option linter.unusedSimpArgs false

theorem HX.send_done {h g o nc gx cx : Nat} {m oc f : Int} {sv sv' : Value} {ss ns : List (List Int)} {w w5 wf : World} {ob : Obj} {x : List Int} {svs nvs csx : List Value}
    (k : HX w h m oc f sv (.slice (some ⟨g, o, none⟩) (nvs.length + 1) nc) ss (x :: ns)) (hs1 : SS w 0 33 sv svs) (hs2 : Msgs w 0 svs ss)
    (hn1 : SS w 0 33 (.slice (some ⟨g, o, none⟩) (nvs.length + 1) nc) (.slice (some ⟨gx, 0, none⟩) x.length cx :: nvs)) (hn2 : Msgs w 0 (.slice (some ⟨gx, 0, none⟩) x.length cx :: nvs) (x :: ns))
    (hBx : Blk w gx csx 5) (hcx : ∀ (j : Nat) (u : Value), (x.map (Value.int .u8))[j]? = some u → csx[j]? = some u)
    (hS : SS w5 0 33 sv' (svs ++ [.slice (some ⟨gx, 0, none⟩) x.length cx])) (hG : (w.alloc ob).grownBy w5 sv.ownBlock) (hv : ∀ q, sv'.ownBlock = some q → sv.ownBlock = some q ∨ (w.alloc ob).heap.size ≤ q)
    (hwf : (w5.setCell ⟨h, 2, none⟩ sv').setCell ⟨h, 4, none⟩ (.slice (if nc = 1 then some ⟨g, o, none⟩ else some ⟨g, o + 1, none⟩) nvs.length (nc - 1)) = wf ∨ (w5.setCell ⟨h, 4, none⟩ (.slice (if nc = 1 then some ⟨g, o, none⟩ else some ⟨g, o + 1, none⟩) nvs.length (nc - 1))).setCell ⟨h, 2, none⟩ sv' = wf) (hlen : ss.length < 127) :
    HX wf h m oc f sv' (.slice (if nc = 1 then some ⟨g, o, none⟩ else some ⟨g, o + 1, none⟩) nvs.length (nc - 1)) (ss ++ [x]) ns ∧ HF w wf h sv (.slice (some ⟨g, o, none⟩) (nvs.length + 1) nc) sv' (.slice (if nc = 1 then some ⟨g, o, none⟩ else some ⟨g, o + 1, none⟩) nvs.length (nc - 1)) ∧ Blk wf gx csx 5 := by
  have hsz := k.blk.lt
  have hne : ∀ {q : Nat}, Ro sv (.slice (some ⟨g, o, none⟩) (nvs.length + 1) nc) q → q ≠ h := fun hq => by obtain ⟨ds, hd⟩ := k.row33 hq; exact hd.apart k.blk (by decide)
  have hltR : ∀ {q : Nat}, Ro sv (.slice (some ⟨g, o, none⟩) (nvs.length + 1) nc) q → q < w.heap.size := fun hq => by obtain ⟨ds, hd⟩ := k.row33 hq; exact hd.lt
  have hFg : Fr (fun q => sv.ownBlock = some q) (w.alloc ob) w5 := (Fr.refl _ _).grown hG (fun q e => .inl e)
  have hF5 : Fr (fun q => sv.ownBlock = some q) w w5 := ((Fr.refl _ w).alloc ob).then_ hFg
  have hh5 : Blk w5 h [.int .i64 m, .int .i64 oc, sv, .int .u8 f, .slice (some ⟨g, o, none⟩) (nvs.length + 1) nc] 105 := k.blk.fr hF5 (fun e => hne (.inl e) rfl)
  have hkey : Blk wf h [.int .i64 m, .int .i64 oc, sv', .int .u8 f, .slice (if nc = 1 then some ⟨g, o, none⟩ else some ⟨g, o + 1, none⟩) nvs.length (nc - 1)] 105 ∧ Fr (fun q => q = h) w5 wf := by
    rcases hwf with rfl | rfl
    · exact ⟨(hh5.set 2 _).set 4 _, Fr.setCell (S := fun q => q = h) (p := ⟨h, 4, none⟩) (Fr.set1 w5 ⟨h, 2, none⟩ _) (.inl rfl) _⟩
    · exact ⟨(hh5.set 4 _).set 2 _, Fr.setCell (S := fun q => q = h) (p := ⟨h, 2, none⟩) (Fr.set1 w5 ⟨h, 4, none⟩ _) (.inl rfl) _⟩
  obtain ⟨hbf, hFs⟩ := hkey
  have hFall : Fr (fun q => sv.ownBlock = some q ∨ q = h) w wf := (hF5.mono (fun _ h => .inl h)).then_ (hFs.mono (fun _ h => .inr h))
  have hno : ∀ g cs, Blk w g cs 5 → 0 ≤ g → ¬ (sv.ownBlock = some g ∨ g = h) := by
    rintro g cs hG _ (e | e)
    · obtain ⟨ds, hd⟩ := k.row33 (.inl e); exact hG.apart hd (by decide) rfl
    · exact hG.apart k.blk (by decide) e
  have hgo : (Value.slice (some ⟨g, o, none⟩) (nvs.length + 1) nc).ownBlock = some g := rfl
  have hno' : ∀ q, (Value.slice (if nc = 1 then some ⟨g, o, none⟩ else some ⟨g, o + 1, none⟩) nvs.length (nc - 1)).ownBlock = some q → q = g := by
    intro q hq
    split at hq <;> simpa [Value.ownBlock, eq_comm] using hq
  have hnr := hn1.rest
  have hv' : ∀ q, sv'.ownBlock = some q → sv.ownBlock = some q ∨ w.heap.size ≤ q := fun q hq => by
    rcases hv q hq with e | e
    · exact .inl e
    · right; simp only [World.size_alloc] at e; omega
  refine ⟨⟨hbf, ⟨_, hS.fr hFs ?_, (hs2.fr hFall hno).snoc (Nat.zero_le _) (hBx.fr hFall (hno _ _ hBx (Nat.zero_le _))) hcx⟩, ⟨nvs, hnr.fr hFall ?_, (hn2.tail).fr hFall hno⟩, ?_, k.fin, ?_, ?_, ?_⟩, ⟨hFall.mono ?_, fun q hq => ?_⟩, hBx.fr hFall (hno _ _ hBx (Nat.zero_le _))⟩
  · intro q hq e
    rcases hv' q hq with e2 | e2
    · exact hne (.inl e2) e
    · omega
  · rintro q hq (e | e)
    · obtain rfl := hno' q hq
      exact k.sep q e hgo
    · obtain rfl := hno' q hq
      exact hne (.inr hgo) e
  · intro q hq1 hq2
    obtain rfl := hno' q hq2
    rcases hv' q hq1 with e | e
    · exact k.sep q e hgo
    · have := hltR (.inr hgo); omega
  · have := k.cnt; simp only [List.length_append, List.length_cons, List.length_nil] at *; omega
  · simp only [List.length_append, List.length_singleton]; omega
  · rintro y (hy | hy)
    · rcases List.mem_append.1 hy with hy | hy
      · exact k.len y (.inl hy)
      · rw [List.mem_singleton.1 hy]; exact k.len x (.inr (List.mem_cons_self ..))
    · exact k.len y (.inr (List.mem_cons_of_mem _ hy))
  · rintro q (e | e)
    · exact .inr (.inl e)
    · exact .inl e
  · rcases hq with e | e
    · rcases hv' q e with e | e
      · exact .inl (.inl e)
      · exact .inr e
    · obtain rfl := hno' q e
      exact .inl (.inr hgo)

set_option maxRecDepth 100000 in
set_option maxHeartbeats 4000000 in
theorem HX.send_ok {h : Nat} {m oc f : Int} {sv nv : Value} {ss ns : List (List Int)} {x : List Int} {w : World} (k : HX w h m oc f sv nv ss (x :: ns)) (hlen : ss.length < 127) :
    Calls Try.prog 22 #[.pointer (some ⟨h, 0, none⟩)] w fun e w' => ∃ (g8 c8 : Nat) (cs8 : List Value), e = .returned (.tuple #[.int .u8 ((f + ss.length) % 128), .slice (some ⟨g8, 0, none⟩) x.length c8, .int .i64 0]) ∧ (∃ sv' nv', HX w' h m oc f sv' nv' (ss ++ [x]) ns ∧ HF w w' h sv nv sv' nv') ∧ Blk w' g8 cs8 5 ∧ (∀ (j : Nat) (u : Value), (x.map (Value.int .u8))[j]? = some u → cs8[j]? = some u) ∧ w.heap.size ≤ g8 := by
  obtain ⟨vvs, hn1, hn2⟩ := k.nl
  obtain ⟨y, nvs, rfl⟩ : ∃ y nvs, vvs = y :: nvs := by
    cases vvs with
    | nil => have := hn2.1; simp at this
    | cons y nvs => exact ⟨y, nvs, rfl⟩
  obtain ⟨gx, cx, csx, hy, -, hBx, hcx⟩ := hn2.2 0 x rfl
  obtain rfl : y = _ := by simpa using hy
  obtain ⟨g, o, nc, rfl, -⟩ := hn1.cell 0 _ rfl
  simp only [List.length_cons] at hn1 k ⊢
  have hl : 1 ≤ x.length ∧ x.length ≤ 400 := by have := k.len x (.inr (List.mem_cons_self ..)); omega
  have hf : 0 ≤ f ∧ f ≤ 127 := k.fin
  have hnl : nvs.length ≤ 1000 := by have := k.cnt; have := hn2.1; simp only [List.length_cons] at *; omega
  have hne : ∀ {q : Nat}, Ro sv (.slice (some ⟨g, o, none⟩) (nvs.length + 1) nc) q → q ≠ h := fun hq => by obtain ⟨ds, hd⟩ := k.row33 hq; exact hd.apart k.blk (by decide)
  have k2 := k.blk.cell 2 rfl
  have k4 := k.blk.cell 4 rfl
  obtain ⟨svs, hs1, hs2⟩ := k.sl
  obtain ⟨sa, sc, rfl⟩ := hs1.shape
  have es := hs2.1
  have hm0 : w.cell? ⟨g, o, none⟩ = some (.slice (some ⟨gx, 0, none⟩) x.length cx) := by
    obtain ⟨g', o', cap', h0, hc⟩ := hn1.cell 0 _ rfl
    simp only [Value.slice.injEq, Option.some.injEq, Addr.mk.injEq] at h0
    obtain ⟨⟨rfl, rfl, _⟩, _, _⟩ := h0
    simpa using hc
  have hltw := k.blk.lt
  have g1 : ¬ ((127 : Int) ≤ (svs.length : Int)) := by omega
  have hcap : nvs.length + 1 ≤ nc := by
    rcases hn1 with ⟨h, _⟩ | ⟨g', o', cap', cs, h0, _, _, h1, _⟩
    · cases h
    · simp only [Value.slice.injEq] at h0
      obtain ⟨_, _, rfl⟩ := h0
      simpa using h1
  have hc1 : 1 ≤ nc := by omega
  have hc2 : (nvs.length : Int) + 1 ≤ (nc : Int) := by omega
  have hc3 : (1 : Int) ≤ (nvs.length : Int) + 1 := by omega
  have hc4 : (0 : Int) ≤ (nvs.length : Int) := by omega
  have hc5 : (1 : Int) ≤ (nc : Int) := by omega
  have bk2 := (k.blk.drew).alloc (.cells #[.slice (some ⟨gx, 0, none⟩) x.length cx] 33)
  have y2 := Blk.cell bk2 2 rfl
  have y4 := Blk.cell bk2 4 rfl
  have hS1 : SS (w.drew.alloc (.cells #[.slice (some ⟨gx, 0, none⟩) x.length cx] 33)) 0 33 (.slice sa svs.length sc) svs := hs1.fr (S := fun _ => False) ((Fr.refl _ w).drew.alloc _) (fun _ _ h => h)
  obtain ⟨i0, hi, hi0, hi1, hi2⟩ := info_parts infoC33
  have hown : ∀ g', (Value.slice sa svs.length sc).ownBlock = some g' → g' ≠ h := fun g' e => hne (.inl e)
  have HK := Lib.hid k
  have H1 := Lib.hid hs1
  have H2 := Lib.hid hs2
  have N1 := Lib.hid hn1
  have N2 := Lib.hid hn2
  have HB := Lib.hid hBx
  have HC := Lib.hid hcx
  have ES := Lib.hid es
  clear k hs1 hs2 hn1 hn2 hBx hcx es hne hy
  go_enter Try.func22, Try.ntmps22
  go_upto_region 6 with fail
  go_cut [30] from 31 to 47 (fun _ wx => ∃ (a5 : Option Addr) (c5 : Nat) (nv' : Value), HX wx h m oc f (.slice a5 (svs.length + 1) c5) nv' (ss ++ [x]) ns ∧ HF w wx h (.slice sa svs.length sc) (.slice (some ⟨g, o, none⟩) (nvs.length + 1) nc) (.slice a5 (svs.length + 1) c5) nv' ∧ Blk wx gx csx 5)
  case first =>
    go_region_law (refine step_append_ss (by rfl) (.tmp 35) (.tmp 37) 49 (by rfl) 33 i0 (.slice none 0 0) 24 Try.underlying49 hi hi0 hi1 hi2 rfl 0 (.slice sa svs.length sc) svs (by rfl) hS1 (Nat.zero_le _) ⟨w.heap.size, 0, none⟩ 1 (.slice (some ⟨gx, 0, none⟩) x.length cx) (by rfl) ((Blk.new w.drew [.slice (some ⟨gx, 0, none⟩) x.length cx] 33).cell 0 rfl) rfl (by unfold maxLen; omega) (by omega) ?_; intro v' w5 hS5 hG hv; obtain ⟨a5, c5, rfl⟩ := hS5.shape; have bk5 := Blk.fr bk2 ((Fr.refl (fun q => (Value.slice sa svs.length sc).ownBlock = some q) _).grown hG (fun q e => .inl e)) (fun e => hown _ e rfl); have z2 := Blk.cell bk5 2 rfl; have z4 := Blk.cell bk5 4 rfl; have f2 := Blk.frozen bk5 2; have f4 := Blk.frozen bk5 4)
    all_goals simp only [List.length_append, List.length_singleton] at hS5 hv
    all_goals (have hd := fun wf hwf => HX.send_done (w := w.drew) (wf := wf) (HK.out.drewN 1) H1.out H2.out N1.out N2.out HB.out HC.out hS5 hG hv hwf hlen)
    all_goals (generalize (if nc = 1 then some (⟨g, o, none⟩ : Addr) else some ⟨g, o + 1, none⟩) = ad at hd ⊢)
    all_goals go_wp2
    all_goals go_meet
    all_goals (have hq := hd _ (by first | exact .inl rfl | exact .inr rfl))
    all_goals exact ⟨a5, c5, _, hq.1, ⟨(Fr.refl _ w).drew.then_ hq.2.1.fr, hq.2.1.own⟩, hq.2.2⟩
  case rest =>
    obtain ⟨a5, c5, nv', q1, q2, q3⟩ := hcut
    have e7 : (f + ((svs.length + 1 : Nat) : Int) - 1) % 128 = (f + ss.length) % 128 := by rw [ES.out]; congr 1; omega
    have e7 := Lib.hid e7
    go_wp2_with fail
    refine (last_gen h m oc f a5 (svs.length + 1) c5 nv' wc q1.blk ⟨hf.1, by omega⟩ (by have := ES.out; omega)).mono ?_
    rw [e7.out]
    rintro e w7 ⟨rfl, n7, rfl⟩
    go_wp2_with fail
    refine (clone_blk gx x.length cx (x.map (Value.int .u8)) (wc.drewN n7) (fun j u hj => q3.cell j (HC.out j u hj)) (by rw [List.length_map]) (by omega) (by omega) (fun u hu => by obtain ⟨n, -, rfl⟩ := List.mem_map.1 hu; rfl)).mono ?_
    rintro e w8 ⟨g8, c8, cs8, rfl, hb8, hg8, hB8, hc8⟩
    go_wp2
    refine bodyPost_ret (v := .tuple #[.int .u8 ((f + ss.length) % 128), .slice (some ⟨g8, 0, none⟩) x.length c8, .int .i64 0]) (by simp [results, Try.results22, go_sem]) rfl ?_
    exact ⟨g8, c8, cs8, rfl, ⟨_, nv', (q1.drewN n7).below hb8, (q2.drewN n7).below hb8⟩, hB8, hc8, Nat.le_trans q2.fr.size hg8⟩

theorem HX.send_none {h : Nat} {m oc f : Int} {sv nv : Value} {ss : List (List Int)} {w : World} (k : HX w h m oc f sv nv ss []) :
    Calls Try.prog 22 #[.pointer (some ⟨h, 0, none⟩)] w fun e w' => e = .returned (.tuple #[.int .u8 0, .slice none 0 0, .int .i64 2]) ∧ w' = w := by
  have k4 := k.blk.cell 4 rfl
  obtain ⟨nvs, hn1, hn2⟩ := k.nl
  obtain rfl : nvs = [] := List.eq_nil_of_length_eq_zero (by have := hn2.1; simpa using this.symm)
  obtain ⟨na, nc, rfl⟩ := hn1.shape
  simp only [List.length_nil] at k4
  clear k hn1 hn2
  go_enter Try.func22, Try.ntmps22
  go_wp2
  refine bodyPost_ret (v := .tuple #[.int .u8 0, .slice none 0 0, .int .i64 2]) (by simp [results, Try.results22, go_sem]) rfl ?_
  exact ⟨rfl, rfl⟩
theorem HX.send_full {h : Nat} {m oc f : Int} {sv nv : Value} {ss ns : List (List Int)} {w : World} (k : HX w h m oc f sv nv ss ns) (hn : 0 < ns.length) (hlen : 127 ≤ ss.length) :
    Calls Try.prog 22 #[.pointer (some ⟨h, 0, none⟩)] w fun e w' => e = .returned (.tuple #[.int .u8 0, .slice none 0 0, .int .i64 3]) ∧ w' = w := by
  have k2 := k.blk.cell 2 rfl
  have k4 := k.blk.cell 4 rfl
  obtain ⟨svs, hs1, hs2⟩ := k.sl
  obtain ⟨nvs, hn1, hn2⟩ := k.nl
  obtain ⟨na, nc, rfl⟩ := hn1.shape
  obtain ⟨sa, sc, rfl⟩ := hs1.shape
  have e1 := hs2.1
  have e2 := hn2.1
  have h9 : nvs.length ≠ 0 := by omega
  have h0 : ((nvs.length : Int) == 0) = false := by simp; intro h; exact h9 (by rw [h]; rfl)
  clear h9
  have h1 : (127 : Int) ≤ (svs.length : Int) := by omega
  clear k hs1 hs2 hn1 hn2 e1 e2
  go_enter Try.func22, Try.ntmps22
  go_wp2
  refine bodyPost_ret (v := .tuple #[.int .u8 0, .slice none 0 0, .int .i64 3]) (by simp [results, Try.results22, go_sem]) rfl ?_
  exact ⟨rfl, rfl⟩
end Go.Proofs.Ytadheikcgdhcdaa
