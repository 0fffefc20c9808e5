/-
  BasicOdd: when two of three were odd.
-/
import Derived.Lib.SlBytesConst
import Derived.Test.YtadheikcgdhcdaaBas2
namespace Go.Proofs.Ytadheikcgdhcdaa
open Go.RowKit Go.ChangeShapes Go.WideShapes
set_option linter.unusedVariables false
set_option linter.unusedSimpArgs false

abbrev unit0 : List Value := [.int .u8 0, .int .u8 0, .bool false, .bool false, .int .u8 0, .int .u8 0, .bool false, .slice none 0 0]
theorem message_is (b h g c : Nat) (w : World) (hB : BB w b h) : Calls Try.prog 83 #[.pointer (some ⟨b, 0, none⟩), .int .u8 0, .slice (some ⟨g, 0, none⟩) 3 c] w fun e w' =>
    e = .returned (.agg #[.int .u8 127, .int .u8 0, .bool true, .bool true, .int .u8 2, .int .u8 0, .bool false, .slice (some ⟨g, 0, none⟩) 3 c]) ∧ Below w.heap.size w w' := by
  have hR0 := Blk.new w unit0 69
  have hB0 : BB (w.alloc (.cells unit0.toArray 69)) b h := Blk.alloc hB _
  have hB1 : Below w.heap.size w (w.alloc (.cells unit0.toArray 69)) := (Below.refl _ _).alloc (Nat.le_refl _) _
  go_enter Try.func83, Try.ntmps83
  go_wp2_with fail
  refine (head_is b h _ hB0).mono ?_
  rintro e w1 ⟨rfl, hb⟩
  have hR1 := Blk.below hR0 hb
  have hR2 : Blk (w1.alloc (.cells #[.int .u8 127, .int .u8 0, .bool true, .bool true, .int .u8 2, .int .u8 0, .bool false, .slice (some ⟨g, 0, none⟩) 3 c] 69)) w.heap.size unit0 69 := Blk.alloc hR1 _
  have hb2 : Below w.heap.size w w1 := hB1.trans (hb.mono (by simp))
  have hb3 : Below w.heap.size w (w1.alloc (.cells #[.int .u8 127, .int .u8 0, .bool true, .bool true, .int .u8 2, .int .u8 0, .bool false, .slice (some ⟨g, 0, none⟩) 3 c] 69)) := hb2.alloc hb2.size _
  have hres := Blk.row hR2 [.int .u8 127, .int .u8 0, .bool true, .bool true, .int .u8 2, .int .u8 0, .bool false, .slice (some ⟨g, 0, none⟩) 3 c]
  have r0 := Blk.cell hres 0 rfl
  have r1 := Blk.cell hres 1 rfl
  have r2 := Blk.cell hres 2 rfl
  have r3 := Blk.cell hres 3 rfl
  have r4 := Blk.cell hres 4 rfl
  have r5 := Blk.cell hres 5 rfl
  have r6 := Blk.cell hres 6 rfl
  have r7 := Blk.cell hres 7 rfl
  have hK := hR2
  unfold Blk at hK
  go_wp2_with (refine wpList_store_row rfl 69 (.tmp 6) (.tmp 14) rfl w.heap.size #[.int .u8 127, .int .u8 0, .bool true, .bool true, .int .u8 2, .int .u8 0, .bool false, .slice (some ⟨g, 0, none⟩) 3 c] rfl rfl 69 _ hK (by kernel_rfl) rfl (by simp [Value.oneCell']) ?_)
  refine bodyPost_ret (v := .agg #[.int .u8 127, .int .u8 0, .bool true, .bool true, .int .u8 2, .int .u8 0, .bool false, .slice (some ⟨g, 0, none⟩) 3 c]) (by simp [results, Try.results83, go_sem, r0, r1, r2, r3, r4, r5, r6, r7]) rfl ?_
  exact ⟨rfl, below_row hb3 (Nat.le_refl _) _⟩

theorem next_first (b h g1 c1 g2 c2 : Nat) (xs : List Value) (w : World) (hB : BB w b h) (hbh : b ≠ h) (hH : HB w h 5 1000 (.slice none 0 0) 0 (.slice (some ⟨g1, 0, none⟩) 1 c1)) (hm : w.cell? ⟨g1, 0, none⟩ = some (.slice (some ⟨g2, 0, none⟩) 3 c2)) (hc : 1 ≤ c1)
    (hx : ∀ j u, xs[j]? = some u → w.cell? ⟨g2, j, none⟩ = some u) (hl : xs.length = 3) (h1 : ∀ u ∈ xs, u.oneCell' = true) (hg : g1 ≠ h ∧ g2 ≠ h) :
    Calls Try.prog 42 #[.pointer (some ⟨b, 0, none⟩)] w fun e w' => ∃ g8 c8, e = .returned (.agg #[.int .u8 127, .int .u8 0, .bool true, .bool true, .int .u8 2, .int .u8 0, .bool false, .slice (some ⟨g8, 0, none⟩) 3 c8]) ∧ Fr (· = h) w w' := by
  have hR0 := Blk.new w unit0 69
  have hB0 : BB (w.alloc (.cells unit0.toArray 69)) b h := Blk.alloc hB _
  have hF0 : Fr (· = h) w (w.alloc (.cells unit0.toArray 69)) := (Fr.refl _ w).alloc _
  have hlh := Blk.lt hH
  have hH0 : HB (w.alloc (.cells unit0.toArray 69)) h 5 1000 (.slice none 0 0) 0 (.slice (some ⟨g1, 0, none⟩) 1 c1) := Blk.alloc hH _
  have hm0 : (w.alloc (.cells unit0.toArray 69)).cell? ⟨g1, 0, none⟩ = some (.slice (some ⟨g2, 0, none⟩) 3 c2) := by rw [World.cell?_alloc_lt _ _ _ (World.block_lt_of_cell? _ _ hm)]; exact hm
  have hx0 : ∀ j u, xs[j]? = some u → (w.alloc (.cells unit0.toArray 69)).cell? ⟨g2, j, none⟩ = some u := fun j u hj => by
    have := hx j u hj
    rw [World.cell?_alloc_lt _ _ _ (World.block_lt_of_cell? _ _ this)]; exact this
  have hsend := send_first h g1 c1 g2 c2 xs _ hH0 hm0 hc hx0 hl h1 hg
  have k0 := Blk.cell hB0 0 rfl
  have k5 := Blk.cell hB0 5 rfl
  clear hx hx0 hm hm0 hl h1
  go_enter Try.func42, Try.ntmps42
  go_wp2_with fail
  refine hsend.mono ?_
  rintro e w1 ⟨g8, c8, rfl, hF1⟩
  have hBB1 : BB w1 b h := Blk.fr hB0 hF1 hbh
  have hR1 := Blk.fr hR0 hF1 (by omega)
  clear hsend k0 k5
  go_wp2_with fail
  refine (message_is b h g8 c8 _ hBB1).mono ?_
  rintro e w2 ⟨rfl, hb2⟩
  have hR2 := Blk.below hR1 hb2
  have hF2 : Fr (· = h) w w2 := (hF0.then_ hF1).then_ (.of_below hb2)
  have hres := Blk.row hR2 [.int .u8 127, .int .u8 0, .bool true, .bool true, .int .u8 2, .int .u8 0, .bool false, .slice (some ⟨g8, 0, none⟩) 3 c8]
  have r0 := Blk.cell hres 0 rfl
  have r1 := Blk.cell hres 1 rfl
  have r2 := Blk.cell hres 2 rfl
  have r3 := Blk.cell hres 3 rfl
  have r4 := Blk.cell hres 4 rfl
  have r5 := Blk.cell hres 5 rfl
  have r6 := Blk.cell hres 6 rfl
  have r7 := Blk.cell hres 7 rfl
  have hK := hR2
  unfold Blk at hK
  go_wp2_with (refine wpList_store_row rfl 69 (.tmp 2) (.tmp 73) rfl w.heap.size #[.int .u8 127, .int .u8 0, .bool true, .bool true, .int .u8 2, .int .u8 0, .bool false, .slice (some ⟨g8, 0, none⟩) 3 c8] rfl rfl 69 _ hK (by kernel_rfl) rfl (by simp [Value.oneCell']) ?_)
  refine bodyPost_ret (v := .agg #[.int .u8 127, .int .u8 0, .bool true, .bool true, .int .u8 2, .int .u8 0, .bool false, .slice (some ⟨g8, 0, none⟩) 3 c8]) (by simp [results, Try.results42, go_sem, r0, r1, r2, r3, r4, r5, r6, r7]) rfl ?_
  exact ⟨_, _, rfl, hF2.row (.inr (Nat.le_refl _)) _⟩

set_option maxRecDepth 100000 in
theorem awake11_any (w : World) : Calls Try.prog 25 #[] w fun e w' => e = .returned (.bool true) ∧ Below w.heap.size w w' := by
  have kc := fun (w : World) (C : Array Value) (n c : Nat) => Lib.run_convert_bytes_const (P := Try.prog) w 33 5 C n c Try.underlying33 Try.underlying5
  go_enter Try.func25, Try.ntmps25
  go_wp2_with fail
  refine (bnew_is 5 1000 w).mono ?_
  rintro e w1 ⟨b, h, rfl, hh, hb, hbh, hB, hH, hBel⟩
  go_wp2_with fail
  refine (bhold_is b h w1 hB).mono ?_
  rintro e _ ⟨rfl, rfl⟩
  have hs := hBel.size
  have hX : ∀ j u, ([.int .u8 97, .int .u8 98, .int .u8 99] : List Value)[j]? = some u → (w1.alloc (.cells #[.int .u8 97, .int .u8 98, .int .u8 99] 5 (3, 4))).cell? ⟨w1.heap.size, j, none⟩ = some u := fun j u hj => by
    rw [← hadd]
    exact World.news_of_block (B := w1.heap.size) (cs := #[.int .u8 97, .int .u8 98, .int .u8 99]) (t := 5) (fr := (3, 4)) (by show (w1.heap.push _)[w1.heap.size]? = _; simp) j u hj
  have hH2 : HB (w1.alloc (.cells #[.int .u8 97, .int .u8 98, .int .u8 99] 5 (3, 4))) h 5 1000 (.slice none 0 0) 0 (.slice none 0 0) := Blk.alloc hH _
  have hB2 : BB (w1.alloc (.cells #[.int .u8 97, .int .u8 98, .int .u8 99] 5 (3, 4))) b h := Blk.alloc hB _
  have hlh := Blk.lt hH
  go_wp2_with fail
  refine (put_first h w1.heap.size 3 [.int .u8 97, .int .u8 98, .int .u8 99] _ hH2 hX rfl (by simp [Value.oneCell'])).mono ?_
  rintro e w2 ⟨g1, c1, g2, c2, rfl, hH3, hm3, hx3, hc3, hg3, hF3⟩
  have hB3 : BB w2 b h := Blk.fr hB2 hF3 hbh
  simp only [World.size_alloc] at hg3
  go_wp2_with fail
  refine (next_first b h g1 c1 g2 c2 _ w2 hB3 hbh hH3 hm3 hc3 hx3 rfl (by simp [Value.oneCell']) ⟨by omega, by omega⟩).mono ?_
  rintro e w3 ⟨g8, c8, rfl, hF4⟩
  have hbel : Below w.heap.size w w3 := by
    have hA := hBel.alloc hs (.cells #[.int .u8 97, .int .u8 98, .int .u8 99] 5 (3, 4))
    have h2 := hA.trans (hF3.below hA.size (fun k hk => by omega))
    exact h2.trans (hF4.below h2.size (fun k hk => by omega))
  go_wp2
  go_ret
  exact ⟨rfl, hbel.alloc hbel.size _⟩

theorem see_is (j : Nat) (x y odd : Bool) (w : World) (h : Blk w j [.bool x, .bool y] 45) : Calls Try.prog 26 #[.pointer (some ⟨j, 0, none⟩), .bool odd] w fun e w' => e = .returned (.bool (odd && (x || y))) ∧ Blk w' j [.bool y, .bool odd] 45 ∧ Fr (· = j) w w' := by
  have c0 := Blk.cell h 0 rfl
  have c1 := Blk.cell h 1 rfl
  have f0 := Blk.frozen h 0
  have f1 := Blk.frozen h 1
  have hb1 : Blk ((w.drew.setCell ⟨j, 0, none⟩ (.bool y)).setCell ⟨j, 1, none⟩ (.bool odd)) j [.bool y, .bool odd] 45 := Blk.set (Blk.set (Blk.drew h) 0 (.bool y)) 1 (.bool odd)
  have hb2 : Blk ((w.drew.setCell ⟨j, 1, none⟩ (.bool odd)).setCell ⟨j, 0, none⟩ (.bool y)) j [.bool y, .bool odd] 45 := Blk.set (Blk.set (Blk.drew h) 1 (.bool odd)) 0 (.bool y)
  have hf1 : Fr (· = j) w ((w.drew.setCell ⟨j, 0, none⟩ (.bool y)).setCell ⟨j, 1, none⟩ (.bool odd)) := Fr.setCell (S := (· = j)) (p := ⟨j, 1, none⟩) (Fr.setCell (S := (· = j)) (p := ⟨j, 0, none⟩) (Fr.refl _ w).drew (.inl rfl) _) (.inl rfl) _
  have hf2 : Fr (· = j) w ((w.drew.setCell ⟨j, 1, none⟩ (.bool odd)).setCell ⟨j, 0, none⟩ (.bool y)) := Fr.setCell (S := (· = j)) (p := ⟨j, 0, none⟩) (Fr.setCell (S := (· = j)) (p := ⟨j, 1, none⟩) (Fr.refl _ w).drew (.inl rfl) _) (.inl rfl) _
  have B1 := Lib.hid hb1
  have B2 := Lib.hid hb2
  have F1 := Lib.hid hf1
  have F2 := Lib.hid hf2
  clear hb1 hb2 hf1 hf2 h
  cases odd <;> cases x <;> cases y
  all_goals
    go_enter Try.func26, Try.ntmps26
    go_upto_region 2 with fail
    go_region
    all_goals go_wp2
    all_goals go_ret
    all_goals first | exact ⟨rfl, B1.out, F1.out⟩ | exact ⟨rfl, B2.out, F2.out⟩

/-- Bools that came in. -/
def Acts0 (w : World) (a : Option Addr) (len : Nat) : Prop := ∀ i, i < len → ∃ x z, a = some x ∧ w.cell? (x.add i) = some (.bool z)
theorem open_bools {H : Type} {enc : TypeId × Value → H} {W : World} {fuel : Nat} {v : Value} {y : DataW H × List MemPlace} (h : DataW.trod enc Try.prog W 0 (fun _ => true) true fuel 43 [v] = some y) : ∃ a len cap, ∃ zs : List Int, v = .slice a len cap ∧ Acts0 W a len ∧ len ≤ maxLen := by
  rcases Go.Deep.open_slice Try.underlying43 h with ⟨hcs, _⟩ | ⟨x, l, c, m, n, D, Pl, hcs, _, hl, hm, hmm, _, hel⟩
  · exact ⟨none, 0, 0, [], by simpa using hcs, fun i hi => absurd hi (Nat.not_lt_zero i), Nat.zero_le _⟩
  · refine ⟨some x, l, c, [], by simpa using hcs, fun i hi => ?_, Nat.le_trans hl hm⟩
    have hmc : m = c := by simpa using hmm
    obtain ⟨cs', h1, h2⟩ := hel i (by omega)
    have he : flat Try.prog 6 4 = some [.bool] := by kernel_rfl
    have hc : Try.prog.cellsOf 4 = 1 := by kernel_rfl
    obtain ⟨_, _, rfl, ⟨z, rfl⟩, rfl⟩ := flat_ok 6 _ _ _ _ _ he h2
    rw [hc] at h1
    obtain ⟨_, _, h3⟩ := World.cells?_some h1
    have q0 := h3 0 (by decide)
    rw [Go.Deep.add_add] at q0
    exact ⟨x, z, rfl, by simpa using q0⟩
theorem Acts0.below {w w' : World} {a : Option Addr} {len : Nat} (h : Acts0 w a len) (hb : Below w.heap.size w w') : Acts0 w' a len := fun i hi => by
  obtain ⟨x, z, e, h1⟩ := h i hi
  exact ⟨x, z, e, by rw [← h1]; exact hb.cell (World.block_lt_of_cell? _ _ h1)⟩
theorem bools_of {w : World} {a : Option Addr} {len : Nat} (h : Acts0 w a len) : ∃ f : Nat → Bool, ∀ i, i < len → ∃ x, a = some x ∧ w.cell? (x.add i) = some (.bool (f i)) := by
  have hh : ∀ i, ∃ z, i < len → ∃ x, a = some x ∧ w.cell? (x.add i) = some (.bool z) := fun i => by
    by_cases hi : i < len
    · obtain ⟨x, z, e, h1⟩ := h i hi
      exact ⟨z, fun _ => ⟨x, e, h1⟩⟩
    · exact ⟨false, fun h => absurd h hi⟩
  exact ⟨fun i => Classical.choose (hh i), fun i hi => Classical.choose_spec (hh i) hi⟩
def pv (f : Nat → Bool) (k d : Nat) : Bool := if d ≤ k then f (k - d) else false
theorem pv1 (f : Nat → Bool) (k : Nat) : pv f (k + 1) 1 = f k := by unfold pv; rw [if_pos (by omega)]; rfl
theorem pv2 (f : Nat → Bool) (k : Nat) : pv f (k + 1) 2 = pv f k 1 := by
  unfold pv
  by_cases h : 1 ≤ k
  · rw [if_pos (by omega), if_pos h, show k + 1 - 2 = k - 1 from by omega]
  · rw [if_neg (by omega), if_neg h]
theorem add0 (x : Addr) : x.add 0 = x := by unfold Addr.add; split <;> simp_all
theorem wrapB (n : Int) (h : -1000 ≤ n ∧ n ≤ 1000) : IntKind.i64.wrap n = n := by
  simp [IntKind.wrap, IntKind.bits, IntKind.signed]
  split <;> omega
set_option maxRecDepth 100000 in
theorem odd_long (a : Option Addr) (len cap : Nat) (w : World) (h : 100 < len) (hm : len ≤ 9223372036854775807) : Calls Try.prog 6 #[.slice a len cap] w fun e w' => e = .returned (.bool true) ∧ Below w.heap.size w w' := by
  have h1 : (100 : Int) < len := by omega
  go_enter Try.func6, Try.ntmps6
  go_wp2_with fail
  refine (awake11_any _).mono ?_
  rintro e w1 ⟨rfl, hb1⟩
  go_wp2_with fail
  refine (awake11_any _).mono ?_
  rintro e w2 ⟨rfl, hb2⟩
  go_wp2
  go_ret
  exact ⟨rfl, bthen hb1 hb2⟩

set_option maxRecDepth 100000 in
set_option maxHeartbeats 4000000 in
theorem odd_main (a : Option Addr) (len cap : Nat) (w : World) (h : len ≤ 100) (hz : Acts0 w a len) : Calls Try.prog 6 #[.slice a len cap] w fun e w' => e = .returned (.bool true) ∧ Below w.heap.size w w' := by
  obtain ⟨f, hf⟩ := bools_of hz
  have Hz := Lib.hid hf
  clear hz hf
  have h1 : ¬ ((100 : Int) < len) := by omega
  go_enter Try.func6, Try.ntmps6
  go_wp2_with fail
  refine (awake11_any _).mono ?_
  rintro e w0 ⟨rfl, hB⟩
  have hO := Blk.new w0 [.bool false, .bool false] 45
  have hB1 := hB.alloc hB.size (.cells #[.bool false, .bool false] 45)
  have hj := hB.size
  go_wp2_with fail
  generalize hjj : w0.heap.size = j at hO hj ⊢
  clear hjj hB
  go_loopw [4] (fun i wr => ∃ k : Nat, k ≤ len ∧ i = .int .i64 k ∧ Blk wr j [.bool (pv f k 2), .bool (pv f k 1)] 45 ∧ Below w.heap.size w wr) (fun i _ => len - (intOf i).toNat)
  case atStart => exact ⟨0, by omega, rfl, hO, hB1⟩
  case round =>
    clear hO hB1
    obtain ⟨k, hk, rfl, hO, hB⟩ := hrel
    by_cases hlt : k < len
    case neg =>
      go_wp2
      go_ret
      exact ⟨rfl, hB⟩
    have e1 := pv1 f k
    have e2 := pv2 f k
    obtain ⟨x, rfl, hzk⟩ := Hz.out k hlt
    replace hzk : wr.cell? (x.add k) = some (.bool (f k)) := by rw [← hzk]; exact hB.cell (World.block_lt_of_cell? _ _ hzk)
    have n1 : k < 1 → pv f k 1 = false := fun h => by unfold pv; rw [if_neg (by omega)]
    have n2 : k < 2 → pv f k 2 = false := fun h => by unfold pv; rw [if_neg (by omega)]
    have d1 : 1 ≤ k → wr.cell? (x.add (k - 1)) = some (.bool (pv f k 1)) := fun h => by
      obtain ⟨x', hx, hc⟩ := Hz.out (k - 1) (by omega)
      obtain rfl : x = x' := by simpa using hx
      unfold pv; rw [if_pos h, ← hc]; exact hB.cell (World.block_lt_of_cell? _ _ hc)
    have d2 : 2 ≤ k → wr.cell? (x.add (k - 2)) = some (.bool (pv f k 2)) := fun h => by
      obtain ⟨x', hx, hc⟩ := Hz.out (k - 2) (by omega)
      obtain rfl : x = x' := by simpa using hx
      unfold pv; rw [if_pos h, ← hc]; exact hB.cell (World.block_lt_of_cell? _ _ hc)
    generalize pv f k 2 = p2 at *
    generalize pv f k 1 = p1 at *
    rw [← e1] at hzk
    have hfin : ∀ (z : Bool) (w5 : World), pv f (k + 1) 1 = z → Blk w5 j [.bool p1, .bool z] 45 → Fr (· = j) wr w5 → Blk w5 j [.bool (pv f (k + 1) 2), .bool (pv f (k + 1) 1)] 45 ∧ Below w.heap.size w w5 := fun z w5 hz hb hF => ⟨by rw [e2, hz]; exact hb, hB.trans (hF.below hB.size (fun q hq => by omega))⟩
    generalize hzz : pv f (k + 1) 1 = z at hzk
    clear e1 e2
    rcases (by omega : k = 0 ∨ k = 1 ∨ 2 ≤ k) with rfl | rfl | hk2
    · obtain rfl := n1 (by omega)
      obtain rfl := n2 (by omega)
      clear d1 d2 n1 n2
      rw [add0] at hzk
      cases z
      all_goals
        go_wp2_with fail
        refine (see_is j false false _ _ hO).mono ?_
        rintro e w5 ⟨rfl, hb5, hF5⟩
        have hq := hfin _ w5 hzz hb5 hF5
        clear hfin
        go_wp2
        exact ⟨⟨1, by omega, by go_num, hq⟩, by simp [intOf]; omega⟩
    · obtain rfl := n2 (by omega)
      have q1 := d1 (by omega)
      simp only [Nat.sub_self] at q1
      rw [add0] at q1
      rw [show x.add 1 = ⟨x.block, x.off + 1, none⟩ from rfl] at hzk
      clear d1 d2 n1 n2
      cases z <;> cases p1
      all_goals
        go_wp2_with fail
        refine (see_is j false _ _ _ hO).mono ?_
        rintro e w5 ⟨rfl, hb5, hF5⟩
        have hq := hfin _ w5 hzz hb5 hF5
        clear hfin
        go_wp2
        exact ⟨⟨2, by omega, by go_num, hq⟩, by simp [intOf]; omega⟩
    · have q1 := d1 (by omega)
      have q2 := d2 hk2
      have g1 : (0 : Int) < (k : Int) := by omega
      have g2 : (1 : Int) < (k : Int) := by omega
      have hw1 : IntKind.i64.wrap ((k : Int) - 1) = ((k - 1 : Nat) : Int) := by rw [wrapB _ (by omega)]; omega
      have hw2 : IntKind.i64.wrap ((k : Int) - 2) = ((k - 2 : Nat) : Int) := by rw [wrapB _ (by omega)]; omega
      have l1 : k - 1 < len := by omega
      have l2 : k - 2 < len := by omega
      clear d1 d2 n1 n2
      cases z <;> cases p1 <;> cases p2
      all_goals
        go_wp2_with fail
        refine (see_is j _ _ _ _ hO).mono ?_
        rintro e w5 ⟨rfl, hb5, hF5⟩
        have hq := hfin _ w5 hzz hb5 hF5
        clear hfin
        go_wp2
        exact ⟨⟨k + 1, by omega, by go_num, hq⟩, by simp [intOf]; omega⟩
theorem odd_row (a : Option Addr) (len cap : Nat) (zs : List Int) (W : World) (hz : Acts0 W a len ∧ len ≤ maxLen) : Calls Try.prog 6 #[.slice a len cap] W fun e w' => e = .returned (.bool true) ∧ Below W.heap.size W w' := by
  by_cases h : len ≤ 100
  · exact odd_main a len cap W h hz.1
  · exact odd_long a len cap W (by omega) hz.2
end Go.Proofs.Ytadheikcgdhcdaa
