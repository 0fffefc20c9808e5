/-
  A hold with many messages: the next one is sent, the walk.
-/
import Derived.Test.YtadheikcgdhcdaaHoldS
namespace Go.Proofs.Ytadheikcgdhcdaa
open Go.RowKit
set_option linter.unusedVariables false
set_option linter.unusedSimpArgs false

theorem and127 (a : Int) : bits .and .i64 a 127 = a % 128 := by
  have h : (BitVec.ofInt IntKind.i64.bits a &&& BitVec.ofInt IntKind.i64.bits 127).toNat = (a % 128).toNat := by
    rw [BitVec.toNat_and]
    have h1 : (BitVec.ofInt IntKind.i64.bits a).toNat = (a % 18446744073709551616).toNat := BitVec.toNat_ofInt ..
    have h2 : (BitVec.ofInt IntKind.i64.bits 127).toNat = 2 ^ 7 - 1 := by decide
    rw [h1, h2, Nat.and_two_pow_sub_one_eq_mod _ 7]; omega
  simp only [bits, h]
  rw [IntKind.wrap_i64]
  omega

theorem at_any (a : Int) (w : World) : Calls Try.prog 91 #[.int .i64 a] w fun e w' => e = .returned (.int .u8 (a % 128)) ∧ w = w' := by
  have h := and127 a
  have h2 : a % 128 % 256 = a % 128 := by omega
  go_enter Try.func91, Try.ntmps91
  go_wp2
  go_ret
  exact ⟨rfl, rfl⟩


theorem HG.below {w w' : World} {base h : Nat} {m o f : Int} {sv nv : Value} {ss ns : List (List Int)} (k : HG w base h m o f sv nv ss ns) (hb : Below w.heap.size w w') : HG w' base h m o f sv nv ss ns := by
  have hF : Fr (fun _ => False) w w' := .of_below hb
  obtain ⟨svs, a1, a2⟩ := k.sl
  obtain ⟨nvs, b1, b2⟩ := k.nl
  exact ⟨k.blk.fr hF (fun h => h), ⟨svs, a1.fr hF (fun _ _ h => h), a2.fr hF (fun _ _ _ _ h => h)⟩, ⟨nvs, b1.fr hF (fun _ _ h => h), b2.fr hF (fun _ _ _ _ h => h)⟩, k.sep, k.lt, Nat.le_trans k.big hF.size⟩
theorem last_gen (h : Nat) (m o f : Int) (sa : Option Addr) (n sc : Nat) (nv : Value) (w : World) (hB : Blk w h [.int .i64 m, .int .i64 o, .slice sa n sc, .int .u8 f, nv] 105) (hf : 0 ≤ f ∧ f ≤ 255) (hn : n ≤ 1000) :
    Calls Try.prog 71 #[.pointer (some ⟨h, 0, none⟩)] w fun e w' => e = .returned (.int .u8 ((f + n - 1) % 128)) ∧ ∃ q, w' = w.drewN q := by
  have c2 := hB.cell 2 rfl
  have c3 := hB.cell 3 rfl
  have hw0 : IntKind.i64.wrap f = f := wrapH _ (by omega)
  have hw1 : IntKind.i64.wrap (f + (n : Int)) = f + n := wrapH _ (by omega)
  have hw2 : IntKind.i64.wrap (f + (n : Int) - 1) = f + n - 1 := wrapH _ (by omega)
  go_enter Try.func71, Try.ntmps71
  go_upto_region 3 with fail
  go_quiet ((go_at_call 91; exact Calls.quiet_of_same ((at_any _ _).mono fun _ _ ⟨h1, h2⟩ => ⟨h1, h2.symm⟩)))
  go_wp2
  go_ret
  exact ⟨rfl, _, rfl⟩

set_option maxRecDepth 100000 in
set_option maxHeartbeats 4000000 in
theorem send_gen (base h g o nc gx cx : Nat) (m oc f : Int) (sv : Value) (ss ns : List (List Int)) (x : List Int) (nvs csx : List Value) (w : World)
    (k : HG w base h m oc f sv (.slice (some ⟨g, o, none⟩) (nvs.length + 1) nc) ss (x :: ns))
    (hn1 : SS w base 33 (.slice (some ⟨g, o, none⟩) (nvs.length + 1) nc) (.slice (some ⟨gx, 0, none⟩) x.length cx :: nvs)) (hn2 : Msgs w base (.slice (some ⟨gx, 0, none⟩) x.length cx :: nvs) (x :: ns))
    (hgx : base ≤ gx) (hBx : Blk w gx csx 5) (hcx : ∀ (j : Nat) (u : Value), (x.map (Value.int .u8))[j]? = some u → csx[j]? = some u)
    (hlen : ss.length < 127) (hl : 1 ≤ x.length ∧ x.length ≤ 400) (hf : 0 ≤ f ∧ f ≤ 127) (hnl : nvs.length ≤ 1000) :
    Calls Try.prog 22 #[.pointer (some ⟨h, 0, none⟩)] w fun e w' => ∃ (sv' nv' : Value) (g8 c8 : Nat) (cs8 : List Value), e = .returned (.tuple #[.int .u8 ((f + ss.length) % 128), .slice (some ⟨g8, 0, none⟩) x.length c8, .int .i64 0]) ∧ HG w' base h m oc f sv' nv' (ss ++ [x]) ns ∧ Fr (fun q => q = h ∨ base ≤ q) w w' ∧ Blk w' g8 cs8 5 ∧ (∀ (j : Nat) (u : Value), (x.map (Value.int .u8))[j]? = some u → cs8[j]? = some u) := by
  have k2 := k.blk.cell 2 rfl
  have k4 := k.blk.cell 4 rfl
  obtain ⟨svs, hs1, hs2⟩ := k.sl
  obtain ⟨sa, sc, rfl⟩ := hs1.shape
  have es := hs2.1
  have hm0 : w.cell? ⟨g, o, none⟩ = some (.slice (some ⟨gx, 0, none⟩) x.length cx) := by
    obtain ⟨g', o', cap', h0, hc⟩ := hn1.cell 0 _ rfl
    simp only [Value.slice.injEq, Option.some.injEq, Addr.mk.injEq] at h0
    obtain ⟨⟨rfl, rfl, _⟩, _, _⟩ := h0
    simpa using hc
  have hlt := k.lt
  have hbig := k.big
  have hltw := k.blk.lt
  have g1 : ¬ ((127 : Int) ≤ (svs.length : Int)) := by omega
  have hcap : nvs.length + 1 ≤ nc := by
    rcases hn1 with ⟨h, _⟩ | ⟨g', o', cap', cs, h0, _, _, h1, _⟩
    · cases h
    · simp only [Value.slice.injEq] at h0
      obtain ⟨_, _, rfl⟩ := h0
      simpa using h1
  have hc1 : 1 ≤ nc := by omega
  have hc2 : (nvs.length : Int) + 1 ≤ (nc : Int) := by omega
  have hc3 : (1 : Int) ≤ (nvs.length : Int) + 1 := by omega
  have hc4 : (0 : Int) ≤ (nvs.length : Int) := by omega
  have hc5 : (1 : Int) ≤ (nc : Int) := by omega
  have hbig2 : base ≤ (w.drew.alloc (.cells #[.slice (some ⟨gx, 0, none⟩) x.length cx] 33)).heap.size := by simp; omega
  have bk2 := (k.blk.drew).alloc (.cells #[.slice (some ⟨gx, 0, none⟩) x.length cx] 33)
  have y2 := Blk.cell bk2 2 rfl
  have y4 := Blk.cell bk2 4 rfl
  have hS1 : SS (w.drew.alloc (.cells #[.slice (some ⟨gx, 0, none⟩) x.length cx] 33)) base 33 (.slice sa svs.length sc) svs := hs1.fr (S := fun _ => False) ((Fr.refl _ w).drew.alloc _) (fun _ _ h => h)
  obtain ⟨i0, hi, hi0, hi1, hi2⟩ := info_parts infoC33
  have hown : ∀ g', (Value.slice sa svs.length sc).ownBlock = some g' → g' ≠ h := fun g' e e2 => by have := (hs1.own e).1; omega
  have HK := Lib.hid k
  have H1 := Lib.hid hs1
  have H2 := Lib.hid hs2
  have N1 := Lib.hid hn1
  have N2 := Lib.hid hn2
  have HB := Lib.hid hBx
  have HC := Lib.hid hcx
  have ES := Lib.hid es
  clear k hs1 hs2 hn1 hn2 hBx hcx es
  go_enter Try.func22, Try.ntmps22
  go_upto_region 6 with fail
  go_cut [30] from 31 to 47 (fun _ wx => ∃ (a5 : Option Addr) (c5 : Nat) (nv' : Value), HG wx base h m oc f (.slice a5 (svs.length + 1) c5) nv' (ss ++ [x]) ns ∧ Fr (fun q => q = h ∨ base ≤ q) w wx ∧ Blk wx gx csx 5)
  case first =>
    go_region_law (refine step_append_ss (by rfl) (.tmp 35) (.tmp 37) 49 (by rfl) 33 i0 (.slice none 0 0) 24 Try.underlying49 hi hi0 hi1 hi2 rfl base (.slice sa svs.length sc) svs (by rfl) hS1 hbig2 ⟨w.heap.size, 0, none⟩ 1 (.slice (some ⟨gx, 0, none⟩) x.length cx) (by rfl) ((Blk.new w.drew [.slice (some ⟨gx, 0, none⟩) x.length cx] 33).cell 0 rfl) rfl (by unfold maxLen; omega) (by omega) ?_; intro v' w5 hS5 hG hv; obtain ⟨a5, c5, rfl⟩ := hS5.shape; have bk5 := Blk.fr bk2 ((Fr.refl (fun q => (Value.slice sa svs.length sc).ownBlock = some q) _).grown hG (fun q e => .inl e)) (fun e => hown _ e rfl); have z2 := Blk.cell bk5 2 rfl; have z4 := Blk.cell bk5 4 rfl; have f2 := Blk.frozen bk5 2; have f4 := Blk.frozen bk5 4)
    all_goals simp only [List.length_append, List.length_singleton] at hS5 hv
    all_goals (have hd := fun wf hwf => send_done (w := w.drew) (wf := wf) (HK.out.drewN 1) H1.out H2.out N1.out N2.out hgx HB.out HC.out hS5 hG hv hwf)
    all_goals (generalize (if nc = 1 then some (⟨g, o, none⟩ : Addr) else some ⟨g, o + 1, none⟩) = ad at hd ⊢)
    all_goals go_wp2
    all_goals go_meet
    all_goals (have hq := hd _ (by first | exact .inl rfl | exact .inr rfl))
    all_goals exact ⟨a5, c5, _, hq.1, (Fr.refl _ w).drew.then_ hq.2.1, hq.2.2⟩
  case rest =>
    obtain ⟨a5, c5, nv', q1, q2, q3⟩ := hcut
    have e7 : (f + ((svs.length + 1 : Nat) : Int) - 1) % 128 = (f + ss.length) % 128 := by rw [ES.out]; congr 1; omega
    have e7 := Lib.hid e7
    go_wp2_with fail
    refine (last_gen h m oc f a5 (svs.length + 1) c5 nv' wc q1.blk ⟨hf.1, by omega⟩ (by have := ES.out; omega)).mono ?_
    rw [e7.out]
    rintro e w7 ⟨rfl, n7, rfl⟩
    go_wp2_with fail
    refine (clone_blk gx x.length cx (x.map (Value.int .u8)) (wc.drewN n7) (fun j u hj => q3.cell j (HC.out j u hj)) (by rw [List.length_map]) (by omega) (by omega) (fun u hu => by obtain ⟨n, -, rfl⟩ := List.mem_map.1 hu; rfl)).mono ?_
    rintro e w8 ⟨g8, c8, cs8, rfl, hb8, -, hB8, hc8⟩
    go_wp2
    refine bodyPost_ret (v := .tuple #[.int .u8 ((f + ss.length) % 128), .slice (some ⟨g8, 0, none⟩) x.length c8, .int .i64 0]) (by simp [results, Try.results22, go_sem]) rfl ?_
    exact ⟨_, nv', g8, c8, cs8, rfl, (q1.drewN n7).below hb8, (q2.drewN n7).then_ (.of_below hb8), hB8, hc8⟩
end Go.Proofs.Ytadheikcgdhcdaa
