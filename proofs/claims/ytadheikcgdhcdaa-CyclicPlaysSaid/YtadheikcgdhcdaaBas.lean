/-
  The example of layer 11: a basic way of its own, one message put, one unit sent.
-/
import Derived.Deep.AppendLies
import Derived.Deep.RegionLaw
import Derived.ArgAppend
import Derived.Test.YtadheikcgdhcdaaBase
import Derived.Test.YtadheikcgdhcdaaFlat
namespace Go.Proofs.Ytadheikcgdhcdaa
open Go.RowKit
set_option linter.unusedVariables false
set_option linter.unusedSimpArgs false

theorem infoC5 : (Try.prog.info? 5).map (fun i => (i.zero, i.size, i.bytes)) = some (some (.int .u8 0), 1, 1) := by kernel_rfl
theorem infoC33 : (Try.prog.info? 33).map (fun i => (i.zero, i.size, i.bytes)) = some (some (.slice none 0 0), 1, 24) := by kernel_rfl
theorem info_parts {t : TypeId} {z : Option Value} {n m : Nat} (h : (Try.prog.info? t).map (fun i => (i.zero, i.size, i.bytes)) = some (z, n, m)) : ∃ i, Try.prog.info? t = some i ∧ i.zero = z ∧ i.size = n ∧ i.bytes = m := by
  obtain ⟨i, hi, he⟩ := Option.map_eq_some_iff.1 h
  simp only [Prod.mk.injEq] at he
  exact ⟨i, hi, he.1, he.2.1, he.2.2⟩
theorem own_nil (w : World) (base : Nat) (e : TypeId) (size : Nat) : w.ownsRow base e size (.slice none 0 0) 0 [] := ⟨by simp, .inl ⟨rfl, rfl⟩⟩
theorem own_at {w : World} {base : Nat} {e : TypeId} {n : Nat} {v : Value} {xs : List Value} (h : w.ownsRow base e 1 v n xs) (u : Nat) (x : Value) (hu : xs[u]? = some x) {g cap : Nat} (hv : v = .slice (some ⟨g, 0, none⟩) n cap) : w.cell? ⟨g, u, none⟩ = some x := by
  have hl := h.1
  rcases h.2 with ⟨h1, h2⟩ | ⟨g', cap', cur, h1, hb, hh, h2, h3, h4, h5⟩
  · rw [h1] at hv; cases hv
  · rw [h1] at hv
    obtain rfl : g' = g := by simp at hv; exact hv.1
    rw [← h5, List.getElem?_take] at hu
    split at hu
    · simp [World.cell?, hh]
      simpa using hu
    · cases hu
theorem hadd (b j : Nat) : (⟨b, 0, none⟩ : Addr).add j = ⟨b, j, none⟩ := by unfold Addr.add; split <;> simp_all

/-- A hold in block h. -/
def HB (w : World) (h : Nat) (m o : Int) (sv : Value) (f : Int) (nv : Value) : Prop := Blk w h [.int .i64 m, .int .i64 o, sv, .int .u8 f, nv] 105
/-- A basic way in block b, as New makes it. -/
def BB (w : World) (b h : Nat) : Prop := Blk w b [.pointer (some ⟨h, 0, none⟩), .bool true, .bool true, .int .u8 127, .bool false, .int .i64 (-1), .bool false, .bool false, .bool false, .bool false] 116

theorem hnew_is (m o : Int) (w : World) : Calls Try.prog 20 #[.int .i64 m, .int .i64 o] w fun e w' => e = .returned (.pointer (some ⟨w.heap.size, 0, none⟩)) ∧ HB w' w.heap.size m o (.slice none 0 0) 0 (.slice none 0 0) ∧ Below w.heap.size w w' := by
  go_enter Try.func20, Try.ntmps20
  go_wp2
  go_ret
  exact ⟨rfl, Blk.new w [.int .i64 m, .int .i64 o, .slice none 0 0, .int .u8 0, .slice none 0 0] 105, (Below.refl _ _).alloc (Nat.le_refl _) _⟩
theorem bnew_is (m o : Int) (w : World) : Calls Try.prog 37 #[.int .i64 m, .int .i64 o] w fun e w' => ∃ b h, e = .returned (.pointer (some ⟨b, 0, none⟩)) ∧ w.heap.size ≤ h ∧ w.heap.size ≤ b ∧ b ≠ h ∧ BB w' b h ∧ HB w' h m o (.slice none 0 0) 0 (.slice none 0 0) ∧ Below w.heap.size w w' := by
  go_enter Try.func37, Try.ntmps37
  go_wp2_with fail
  refine (hnew_is _ _ _).mono ?_
  rintro e w1 ⟨rfl, hH, hb⟩
  have hs := hb.size
  have hl : w.heap.size < w1.heap.size := Blk.lt hH
  go_wp2
  go_ret
  exact ⟨_, _, rfl, Nat.le_refl _, hs, by omega, Blk.new w1 [.pointer (some ⟨w.heap.size, 0, none⟩), .bool true, .bool true, .int .u8 127, .bool false, .int .i64 (-1), .bool false, .bool false, .bool false, .bool false] 116, Blk.alloc hH _, hb.alloc hs _⟩
theorem bhold_is (b h : Nat) (w : World) (hB : BB w b h) : Calls Try.prog 41 #[.pointer (some ⟨b, 0, none⟩)] w fun e w' => e = .returned (.pointer (some ⟨h, 0, none⟩)) ∧ w = w' := by
  have c0 := Blk.cell hB 0 rfl
  go_enter Try.func41, Try.ntmps41
  go_wp2
  go_ret
  exact ⟨rfl, rfl⟩
theorem size_none (w : World) : Calls Try.prog 86 #[.slice none 0 0] w fun e w' => e = .returned (.int .i64 0) ∧ w = w' := by
  go_enter Try.func86, Try.ntmps86
  go_wp2
  go_loop [3, 8] (fun n i => n = .int .i64 0 ∧ i = .int .i64 0) (fun _ _ => 0)
  case atStart => exact ⟨rfl, rfl⟩
  case round =>
    obtain ⟨rfl, rfl⟩ := hrel
    go_wp2
    go_ret
    exact ⟨rfl, rfl⟩
theorem size_same (w : World) : Calls Try.prog 86 #[.slice none 0 0] w fun e w' => e = .returned (.int .i64 0) ∧ w' = w := (size_none w).mono fun _ _ ⟨h1, h2⟩ => ⟨h1, h2.symm⟩
theorem octets_none (h : Nat) (m o f : Int) (w : World) (hH : HB w h m o (.slice none 0 0) f (.slice none 0 0)) : Calls Try.prog 69 #[.pointer (some ⟨h, 0, none⟩)] w fun e w' => e = .returned (.int .i64 0) ∧ ∃ n, w' = w.drewN n := by
  have c2 := Blk.cell hH 2 rfl
  have c4 := Blk.cell hH 4 rfl
  go_enter Try.func69, Try.ntmps69
  go_upto_region 3 with fail
  go_quiet ((go_at_call 86; exact Calls.quiet_of_same (size_same _)))
  go_wp2
  go_ret
  exact ⟨rfl, _, rfl⟩
theorem at_is (a : Int) (h0 : 0 ≤ a ∧ a ≤ 127) (w : World) : Calls Try.prog 91 #[.int .i64 a] w fun e w' => e = .returned (.int .u8 a) ∧ w = w' := by
  have hb : bits .and .i64 a 127 = a := by
    have h : (BitVec.ofInt IntKind.i64.bits a &&& BitVec.ofInt IntKind.i64.bits 127).toNat = a.toNat := by
      rw [BitVec.toNat_and]
      have h1 : (BitVec.ofInt IntKind.i64.bits a).toNat = (a % 18446744073709551616).toNat := BitVec.toNat_ofInt ..
      have h2 : (BitVec.ofInt IntKind.i64.bits 127).toNat = 2 ^ 7 - 1 := by decide
      rw [h1, h2, Nat.and_two_pow_sub_one_eq_mod _ 7]; omega
    simp only [bits, h]
    simp [IntKind.wrap, IntKind.bits, IntKind.signed]
    split <;> omega
  go_enter Try.func91, Try.ntmps91
  go_wp2
  go_ret
  exact ⟨ret_int (by omega), rfl⟩

theorem eqin_nil (d : Nat) (x : Addr) (len cap : Nat) (w : World) : (Op.equalIn (d + 1) 33 (.slice (some x) len cap) (.slice none 0 0)).run Try.prog w = .ok false w := by
  simp [Op.equalIn, run_underlying Try.underlying33]
theorem eq_nil (x : Addr) (len cap : Nat) (w : World) : (binOp .eql 33 (.slice (some x) len cap) (.slice none 0 0)).run Try.prog w = .ok (.bool false) w := by
  have h1 : (Op.equal 33 (.slice (some x) len cap) (.slice none 0 0)).run Try.prog w = .ok false w := eqin_nil 9999 x len cap w
  simp [binOp, h1]
theorem clone_is (g n c : Nat) (xs : List Value) (w : World) (hx : ∀ j u, xs[j]? = some u → w.cell? ⟨g, j, none⟩ = some u) (hl : xs.length = n) (h : 0 < n) (hm : n ≤ 400) (h1 : ∀ u ∈ xs, u.oneCell' = true) :
    Calls Try.prog 70 #[.slice (some ⟨g, 0, none⟩) n c] w fun e w' => ∃ g' c', e = .returned (.slice (some ⟨g', 0, none⟩) n c') ∧ Below w.heap.size w w' ∧ w.heap.size ≤ g' ∧ (∀ j u, xs[j]? = some u → w'.cell? ⟨g', j, none⟩ = some u) := by
  have hB : Below w.heap.size w (w.alloc (.cells #[] 5)) := (Below.refl _ _).alloc (Nat.le_refl _) _
  have hX : Hid (∀ j u, xs[j]? = some u → (w.alloc (.cells #[] 5)).cell? ((⟨g, 0, none⟩ : Addr).add j) = some u) := Lib.hid (fun j u hj => by
    rw [hadd]
    have := hx j u hj
    rw [World.cell?_alloc_lt _ _ _ (World.block_lt_of_cell? _ _ this)]; exact this)
  obtain ⟨i0, hi, hz0, hz1, hz2⟩ := info_parts infoC5
  have hq := eq_nil ⟨g, 0, none⟩ n c w
  have HL := Lib.hid hl
  have H1 := Lib.hid h1
  clear hx hl h1
  go_enter Try.func70, Try.ntmps70
  go_wp2_with (refine wpList_append_grows _ rfl (.tmp 5) (.tmp 6) 33 rfl 5 i0 (.int .u8 0) 1 1 Try.underlying33 hi hz0 hz1 hz2 rfl (by decide) (some ⟨w.heap.size, 0, none⟩) 0 0 [] rfl (fun h => by cases h) rfl (fun b hb j u hj => by cases hj) ⟨g, 0, none⟩ n c xs rfl (by rw [HL.out]; omega) hX.out H1.out (by omega) (by unfold maxLen; omega) (by omega) ?_; intro v' w' hown hgr)
  rw [Nat.zero_add, List.nil_append] at hown
  obtain ⟨g', c', rfl, hg, -⟩ := hown.form h
  refine bodyPost_ret (v := .slice (some ⟨g', 0, none⟩) n c') (by simp [results, Try.results70, go_sem]) rfl ?_
  have hsz : w.heap.size ≤ g' := by simp only [World.size_alloc] at hg; omega
  exact ⟨g', c', rfl, hB.trans (((Fr.refl (fun _ => False) _).grown hgr (by simp)).below hB.size (by simp)), hsz, fun j u hj => own_at hown j u hj rfl⟩

theorem put_close {h g2 c2 g1 c1 : Nat} {w W w1 w5 : World} {mv : Value} {xs : List Value} (hF : Fr (· = h) w W) (hlt : h < W.heap.size) (hh5 : HB w5 h 5 1000 (.slice none 0 0) 0 (.slice none 0 0)) (hb : Below W.drew.heap.size W.drew w1)
    (hx2 : ∀ j u, xs[j]? = some u → w1.cell? ⟨g2, j, none⟩ = some u) (hg2 : W.drew.heap.size ≤ g2) (hF5 : Fr (fun _ => False) (w1.alloc (.cells #[mv] 33)) w5)
    (hO5 : w5.ownsRow 0 33 1 (.slice (some ⟨g1, 0, none⟩) (0 + 1) c1) (0 + 1) ([] ++ [mv])) (hat : (Value.slice none 0 0).ownBlock = some g1 ∨ g1 = (w1.alloc (.cells #[mv] 33)).heap.size) :
    HB (w5.setCell ⟨h, 4, none⟩ (.slice (some ⟨g1, 0, none⟩) 1 c1)) h 5 1000 (.slice none 0 0) 0 (.slice (some ⟨g1, 0, none⟩) 1 c1) ∧
      (w5.setCell ⟨h, 4, none⟩ (.slice (some ⟨g1, 0, none⟩) 1 c1)).cell? ⟨g1, 0, none⟩ = some mv ∧ (∀ j u, xs[j]? = some u → (w5.setCell ⟨h, 4, none⟩ (.slice (some ⟨g1, 0, none⟩) 1 c1)).cell? ⟨g2, j, none⟩ = some u) ∧ 1 ≤ c1 ∧ (w.heap.size ≤ g1 ∧ w.heap.size ≤ g2) ∧ Fr (· = h) w (w5.setCell ⟨h, 4, none⟩ (.slice (some ⟨g1, 0, none⟩) 1 c1)) := by
  have hs0 := hF.size
  have hs1 : W.heap.size ≤ w1.heap.size := hb.size
  have hg2' : W.heap.size ≤ g2 := hg2
  have hg1 : g1 = w1.heap.size + 1 := by
    rcases hat with h | h
    · cases h
    · simpa using h
  have hF1 : Fr (· = h) (w1.alloc (.cells #[mv] 33)) (w5.setCell ⟨h, 4, none⟩ (.slice (some ⟨g1, 0, none⟩) 1 c1)) := Fr.setCell (S := (· = h)) (p := ⟨h, 4, none⟩) (hF5.mono (fun _ h => h.elim)) (.inl rfl) _
  have hF2 : Fr (· = h) w1 (w5.setCell ⟨h, 4, none⟩ (.slice (some ⟨g1, 0, none⟩) 1 c1)) := ((Fr.refl _ w1).alloc _).then_ hF1
  have hF3 : Fr (· = h) W.drew w1 := .of_below hb
  refine ⟨Blk.set hh5 4 _, ?_, fun j u hj => ?_, ?_, ⟨by omega, by omega⟩, (hF.drew.then_ hF3).then_ hF2⟩
  · have h1 := own_at hO5 0 mv rfl rfl
    rw [← h1]
    exact World.cell?_of_block (w := w5) ((Fr.set1 w5 ⟨h, 4, none⟩ _).block _ (World.block_lt_of_cell? _ _ h1) (by show ¬ g1 = h; omega))
  · have h1 := hx2 j u hj
    rw [← h1]
    exact World.cell?_of_block (w := w1) (hF2.block _ (World.block_lt_of_cell? _ _ h1) (by show ¬ g2 = h; omega))
  · rcases hO5.2 with ⟨h1, _⟩ | ⟨g, cap, cur, h1, _, _, h2, _⟩
    · cases h1
    · have : c1 = cap := by simp at h1; exact h1.2
      omega

set_option maxHeartbeats 2000000 in
theorem put_first (h g c : Nat) (xs : List Value) (w : World) (hH : HB w h 5 1000 (.slice none 0 0) 0 (.slice none 0 0)) (hx : ∀ j u, xs[j]? = some u → w.cell? ⟨g, j, none⟩ = some u) (hl : xs.length = 3) (h1 : ∀ u ∈ xs, u.oneCell' = true) :
    Calls Try.prog 21 #[.pointer (some ⟨h, 0, none⟩), .slice (some ⟨g, 0, none⟩) 3 c] w fun e w' => ∃ g1 c1 g2 c2, e = .returned (.int .i64 0) ∧ HB w' h 5 1000 (.slice none 0 0) 0 (.slice (some ⟨g1, 0, none⟩) 1 c1) ∧
      w'.cell? ⟨g1, 0, none⟩ = some (.slice (some ⟨g2, 0, none⟩) 3 c2) ∧ (∀ j u, xs[j]? = some u → w'.cell? ⟨g2, j, none⟩ = some u) ∧ 1 ≤ c1 ∧ (w.heap.size ≤ g1 ∧ w.heap.size ≤ g2) ∧ Fr (· = h) w w' := by
  have c0 := Blk.cell hH 0 rfl
  have c1 := Blk.cell hH 1 rfl
  have c2 := Blk.cell hH 2 rfl
  have c4 := Blk.cell hH 4 rfl
  have HX := Lib.hid hx
  have HL := Lib.hid hl
  have H1 := Lib.hid h1
  clear hx hl h1
  go_enter Try.func21, Try.ntmps21
  go_upto_region 7 with fail
  go_quiet ((go_at_call 69; exact Calls.quiet_of (octets_none h _ _ _ _ (Blk.drewN hH _))))
  go_upto_region 9 with fail
  have hHq : HB (w.drewN nq) h 5 1000 (.slice none 0 0) 0 (.slice none 0 0) := Blk.drewN hH nq
  have hFq : Fr (· = h) w (w.drewN nq) := (Fr.refl _ _).drewN nq
  have hXq : Hid (∀ j u, xs[j]? = some u → (w.drewN nq).cell? ⟨g, j, none⟩ = some u) := HX
  have hsq : w.heap.size = (w.drewN nq).heap.size := rfl
  clear hH HX c0 c1 c2 c4
  generalize w.drewN nq = W at hHq hFq hXq hsq ⊢
  have c4 := Blk.cell hHq 4 rfl
  have hlt := Blk.lt hHq
  have hcl := clone_is g 3 c xs W.drew hXq.out HL.out (by decide) (by decide) H1.out
  obtain ⟨i0, hi, hi0, hi1, hi2⟩ := info_parts infoC33
  go_region_law (first | (go_simp; go_at_call 70; refine hcl.mono ?_; rintro e w1 ⟨g2, c2, rfl, hb, hg2, hx2⟩; have hs1 : W.heap.size ≤ w1.heap.size := hb.size; have hh1 : HB w1 h 5 1000 (.slice none 0 0) 0 (.slice none 0 0) := Blk.below (Blk.drew hHq) hb; have y1 := Blk.cell hh1 4 rfl; have hh2 : HB (w1.alloc (.cells #[.slice (some ⟨g2, 0, none⟩) 3 c2] 33)) h 5 1000 (.slice none 0 0) 0 (.slice none 0 0) := Blk.alloc hh1 _; have y2 := Blk.cell hh2 4 rfl) | (refine step_append_lies (w1.alloc (.cells #[.slice (some ⟨g2, 0, none⟩) 3 c2] 33)) (by rfl) (.tmp 49) (.tmp 52) 49 (by rfl) 0 33 i0 (.slice none 0 0) 1 24 Try.underlying49 hi hi0 hi1 hi2 rfl (by decide) (.slice none 0 0) 0 [] (by rfl) (own_nil _ _ _ _) ⟨w1.heap.size, 0, none⟩ 1 1 [.slice (some ⟨g2, 0, none⟩) 3 c2] (by rfl) rfl (World.news_of_block (B := w1.heap.size) (cs := #[.slice (some ⟨g2, 0, none⟩) 3 c2]) (t := 33) (fr := (0, 0)) (by show (w1.heap.push _)[w1.heap.size]? = _; simp)) (by simp [Value.oneCell']) (by decide) (by decide) (by decide) (Nat.zero_le _) _ rfl ?_; intro g1 c1 w5 hO5 hG hat hlt5; have hF5 : Fr (fun _ => False) (w1.alloc (.cells #[.slice (some ⟨g2, 0, none⟩) 3 c2] 33)) w5 := (Fr.refl _ _).grown hG (by intro k e; cases e); have hh5 : HB w5 h 5 1000 (.slice none 0 0) 0 (.slice none 0 0) := Blk.fr hh2 hF5 (fun e => e); have y5 := Blk.cell hh5 4 rfl; have y6 := Blk.frozen hh5 4))
  all_goals go_wp2
  all_goals go_ret
  all_goals exact ⟨g1, c1, g2, c2, rfl, put_close (c2 := c2) hFq hlt hh5 hb hx2 hg2 hF5 hO5 hat⟩

theorem last_one (h g c : Nat) (w : World) (nv : Value) (hH : HB w h 5 1000 (.slice (some ⟨g, 0, none⟩) 1 c) 0 nv) : Calls Try.prog 71 #[.pointer (some ⟨h, 0, none⟩)] w fun e w' => e = .returned (.int .u8 0) ∧ ∃ n, w' = w.drewN n := by
  have c2 := Blk.cell hH 2 rfl
  have c3 := Blk.cell hH 3 rfl
  go_enter Try.func71, Try.ntmps71
  go_upto_region 3 with fail
  go_quiet ((go_at_call 91; exact Calls.quiet_of_same ((at_is 0 (by decide) _).mono fun _ _ ⟨h1, h2⟩ => ⟨h1, h2.symm⟩)))
  go_wp2
  go_ret
  exact ⟨rfl, _, rfl⟩
/-- A unit's head. -/
theorem head_is (b h : Nat) (w : World) (hB : BB w b h) : Calls Try.prog 82 #[.pointer (some ⟨b, 0, none⟩), .int .u8 0] w fun e w' => e = .returned (.agg #[.int .u8 127, .int .u8 0, .bool true, .bool true, .int .u8 0, .int .u8 0, .bool false, .slice none 0 0]) ∧ Below w.heap.size w w' := by
  have c1 := Blk.cell hB 1 rfl
  have c2 := Blk.cell hB 2 rfl
  have c3 := Blk.cell hB 3 rfl
  have hl := Blk.lt hB
  go_enter Try.func82, Try.ntmps82
  go_upto_region 1 with fail
  go_region
  all_goals go_wp2
  all_goals refine bodyPost_ret (v := .agg #[.int .u8 127, .int .u8 0, .bool true, .bool true, .int .u8 0, .int .u8 0, .bool false, .slice none 0 0]) (by simp [results, Try.results82, go_sem]) rfl ?_
  all_goals first | exact ⟨rfl, (Below.refl _ _).alloc (Nat.le_refl _) _⟩ | exact ⟨rfl, below_drewN ((Below.refl _ _).alloc (Nat.le_refl _) _) 1⟩
end Go.Proofs.Ytadheikcgdhcdaa
