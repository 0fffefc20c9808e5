/-
  UnitReads: any octets: the unit that they are, or why they are none.
-/
import Derived.ArgAppend
import Derived.Test.YtpgalefpccgpfaaUnitSW
import Derived.Test.YtpgalefpccgpfaaUnitDA
namespace Go.Proofs.Ytpgalefpccgpfaa
open Go.RowKit
set_option linter.unusedVariables false
set_option linter.unusedSimpArgs false

theorem reads_long (a : Option Addr) (len cap : Nat) (li : Bool) (w : World) (h : 400 < len) : Calls Try.prog 5 #[.slice a len cap, .bool li] w fun e w' => e = .returned (.bool true) ∧ Below w.heap.size w w' := by
  have h1 : (400 : Int) < len := by omega
  go_enter Try.func5, Try.ntmps5
  go_wp2_with fail
  refine (awake_is _).mono ?_
  rintro e w1 ⟨rfl, hb1⟩
  go_wp2_with fail
  refine (awake_is _).mono ?_
  rintro e w2 ⟨rfl, hb2⟩
  go_wp2
  go_ret
  exact ⟨rfl, bthen hb1 hb2⟩
set_option maxHeartbeats 1000000 in
theorem reads_nil_none (cap : Nat) (li : Bool) (w : World) : Calls Try.prog 5 #[.slice none 0 cap, .bool li] w fun e w' => e = .returned (.bool true) ∧ Below w.heap.size w w' := by
  go_enter Try.func5, Try.ntmps5
  go_wp2_with fail
  refine (awake_is _).mono ?_
  rintro e w1 ⟨rfl, hb1⟩
  have hB1 := hb1
  have HR := Lib.hid (row_nil w1)
  have hcap : 0 ≤ 0 := Nat.le_refl _
  cases li
  · obtain ⟨⟨b, f, bi, fi, k, s, wd, er, ys⟩, hD⟩ := dec_two []
    go_wp2_with fail
    refine ((hD _ _ _ _ HR.out hcap).1).mono ?_
    rintro e w2 ⟨x2, m2, k2, rfl, hb2, hR2, hm2⟩
    replace HR := Lib.hid ((HR.out.below hb2).below ((Below.refl _ _).alloc (Nat.le_refl _) (.cells #[.int .u8 b, .int .u8 f, .bool bi, .bool fi, .int .u8 k, .int .u8 s, .bool wd, .slice x2 m2 k2] 24)))
    have HR2 := Lib.hid (hR2.below ((Below.refl _ _).alloc (Nat.le_refl _) (.cells #[.int .u8 b, .int .u8 f, .bool bi, .bool fi, .int .u8 k, .int .u8 s, .bool wd, .slice x2 m2 k2] 24)))
    have hB2 := (bthen hB1 hb2).alloc (bthen hB1 hb2).size (.cells #[.int .u8 b, .int .u8 f, .bool bi, .bool fi, .int .u8 k, .int .u8 s, .bool wd, .slice x2 m2 k2] 24)
    have hU := Blk.new w2 [.int .u8 b, .int .u8 f, .bool bi, .bool fi, .int .u8 k, .int .u8 s, .bool wd, .slice x2 m2 k2] 24
    clear hb2 hR2 hB1
    go_wp2_with fail
    refine ((hD _ _ _ _ HR.out hcap).2).mono ?_
    rintro e w3 ⟨x3, m3, k3, rfl, hb3, hR3, hm3⟩
    have hU3 := hU.below hb3
    have hlt := hU3.lt
    have hB3 := (bthen hB2 hb3).alloc (bthen hB2 hb3).size (.cells #[.int .u8 b, .int .u8 f, .bool bi, .bool fi, .int .u8 k, .int .u8 s, .bool wd, .slice x3 m3 k3] 24)
    have HRa := Lib.hid ((HR2.out.below hb3).below ((Below.refl _ _).alloc (Nat.le_refl _) (.cells #[.int .u8 b, .int .u8 f, .bool bi, .bool fi, .int .u8 k, .int .u8 s, .bool wd, .slice x3 m3 k3] 24)))
    have HRb := Lib.hid (hR3.below ((Below.refl _ _).alloc (Nat.le_refl _) (.cells #[.int .u8 b, .int .u8 f, .bool bi, .bool fi, .int .u8 k, .int .u8 s, .bool wd, .slice x3 m3 k3] 24)))
    have hne : w2.heap.size ≠ w3.heap.size := by omega
    clear HR HR2 hU hb3 hR3 hB2
    have c0 := hU3.cell 0 rfl
    have c1 := hU3.cell 1 rfl
    have c2 := hU3.cell 2 rfl
    have c3 := hU3.cell 3 rfl
    have c4 := hU3.cell 4 rfl
    have c5 := hU3.cell 5 rfl
    have c6 := hU3.cell 6 rfl
    have c7 := hU3.cell 7 rfl
    clear hU3
    go_wp2_with fail
    refine (rsame_is _ _ _ _ _ _ _ _ _ _ _ _ _ _ _ _ _ _ _ _ _ _ _ HRa.out HRb.out (by omega)).mono ?_
    rintro e w4 ⟨rfl, hb4⟩
    rw [sameV_self]
    go_wp2
    go_ret
    exact ⟨rfl, bthen hB3 hb4⟩
  · obtain ⟨⟨b, f, bi, fi, k, s, wd, er, ys⟩, hD⟩ := dec_two []
    go_wp2_with fail
    refine ((hD _ _ _ _ HR.out hcap).1).mono ?_
    rintro e w2 ⟨x2, m2, k2, rfl, hb2, hR2, hm2⟩
    replace HR := Lib.hid ((HR.out.below hb2).below ((Below.refl _ _).alloc (Nat.le_refl _) (.cells #[.int .u8 b, .int .u8 f, .bool bi, .bool fi, .int .u8 k, .int .u8 s, .bool wd, .slice x2 m2 k2] 24)))
    have HR2 := Lib.hid (hR2.below ((Below.refl _ _).alloc (Nat.le_refl _) (.cells #[.int .u8 b, .int .u8 f, .bool bi, .bool fi, .int .u8 k, .int .u8 s, .bool wd, .slice x2 m2 k2] 24)))
    have hB2 := (bthen hB1 hb2).alloc (bthen hB1 hb2).size (.cells #[.int .u8 b, .int .u8 f, .bool bi, .bool fi, .int .u8 k, .int .u8 s, .bool wd, .slice x2 m2 k2] 24)
    have hU := Blk.new w2 [.int .u8 b, .int .u8 f, .bool bi, .bool fi, .int .u8 k, .int .u8 s, .bool wd, .slice x2 m2 k2] 24
    clear hb2 hR2 hB1
    go_wp2_with fail
    refine ((hD _ _ _ _ HR.out hcap).2).mono ?_
    rintro e w3 ⟨x3, m3, k3, rfl, hb3, hR3, hm3⟩
    have hU3 := hU.below hb3
    have hlt := hU3.lt
    have hB3 := (bthen hB2 hb3).alloc (bthen hB2 hb3).size (.cells #[.int .u8 b, .int .u8 f, .bool bi, .bool fi, .int .u8 k, .int .u8 s, .bool wd, .slice x3 m3 k3] 24)
    have HRa := Lib.hid ((HR2.out.below hb3).below ((Below.refl _ _).alloc (Nat.le_refl _) (.cells #[.int .u8 b, .int .u8 f, .bool bi, .bool fi, .int .u8 k, .int .u8 s, .bool wd, .slice x3 m3 k3] 24)))
    have HRb := Lib.hid (hR3.below ((Below.refl _ _).alloc (Nat.le_refl _) (.cells #[.int .u8 b, .int .u8 f, .bool bi, .bool fi, .int .u8 k, .int .u8 s, .bool wd, .slice x3 m3 k3] 24)))
    have hne : w2.heap.size ≠ w3.heap.size := by omega
    clear HR HR2 hU hb3 hR3 hB2
    have c0 := hU3.cell 0 rfl
    have c1 := hU3.cell 1 rfl
    have c2 := hU3.cell 2 rfl
    have c3 := hU3.cell 3 rfl
    have c4 := hU3.cell 4 rfl
    have c5 := hU3.cell 5 rfl
    have c6 := hU3.cell 6 rfl
    have c7 := hU3.cell 7 rfl
    clear hU3
    go_wp2_with fail
    refine (rsame_is _ _ _ _ _ _ _ _ _ _ _ _ _ _ _ _ _ _ _ _ _ _ _ HRa.out HRb.out (by omega)).mono ?_
    rintro e w4 ⟨rfl, hb4⟩
    rw [sameV_self]
    go_wp2
    go_ret
    exact ⟨rfl, bthen hB3 hb4⟩
set_option maxHeartbeats 1000000 in
theorem reads_nil_some (x : Addr) (cap : Nat) (li : Bool) (w : World) : Calls Try.prog 5 #[.slice (some x) 0 cap, .bool li] w fun e w' => e = .returned (.bool true) ∧ Below w.heap.size w w' := by
  go_enter Try.func5, Try.ntmps5
  go_wp2_with fail
  refine (awake_is _).mono ?_
  rintro e w1 ⟨rfl, hb1⟩
  have hB1 := hb1
  have HR := Lib.hid (row_nil w1)
  have hcap : 0 ≤ 0 := Nat.le_refl _
  cases li
  · obtain ⟨⟨b, f, bi, fi, k, s, wd, er, ys⟩, hD⟩ := dec_two []
    go_wp2_with fail
    refine ((hD _ _ _ _ HR.out hcap).1).mono ?_
    rintro e w2 ⟨x2, m2, k2, rfl, hb2, hR2, hm2⟩
    replace HR := Lib.hid ((HR.out.below hb2).below ((Below.refl _ _).alloc (Nat.le_refl _) (.cells #[.int .u8 b, .int .u8 f, .bool bi, .bool fi, .int .u8 k, .int .u8 s, .bool wd, .slice x2 m2 k2] 24)))
    have HR2 := Lib.hid (hR2.below ((Below.refl _ _).alloc (Nat.le_refl _) (.cells #[.int .u8 b, .int .u8 f, .bool bi, .bool fi, .int .u8 k, .int .u8 s, .bool wd, .slice x2 m2 k2] 24)))
    have hB2 := (bthen hB1 hb2).alloc (bthen hB1 hb2).size (.cells #[.int .u8 b, .int .u8 f, .bool bi, .bool fi, .int .u8 k, .int .u8 s, .bool wd, .slice x2 m2 k2] 24)
    have hU := Blk.new w2 [.int .u8 b, .int .u8 f, .bool bi, .bool fi, .int .u8 k, .int .u8 s, .bool wd, .slice x2 m2 k2] 24
    clear hb2 hR2 hB1
    go_wp2_with fail
    refine ((hD _ _ _ _ HR.out hcap).2).mono ?_
    rintro e w3 ⟨x3, m3, k3, rfl, hb3, hR3, hm3⟩
    have hU3 := hU.below hb3
    have hlt := hU3.lt
    have hB3 := (bthen hB2 hb3).alloc (bthen hB2 hb3).size (.cells #[.int .u8 b, .int .u8 f, .bool bi, .bool fi, .int .u8 k, .int .u8 s, .bool wd, .slice x3 m3 k3] 24)
    have HRa := Lib.hid ((HR2.out.below hb3).below ((Below.refl _ _).alloc (Nat.le_refl _) (.cells #[.int .u8 b, .int .u8 f, .bool bi, .bool fi, .int .u8 k, .int .u8 s, .bool wd, .slice x3 m3 k3] 24)))
    have HRb := Lib.hid (hR3.below ((Below.refl _ _).alloc (Nat.le_refl _) (.cells #[.int .u8 b, .int .u8 f, .bool bi, .bool fi, .int .u8 k, .int .u8 s, .bool wd, .slice x3 m3 k3] 24)))
    have hne : w2.heap.size ≠ w3.heap.size := by omega
    clear HR HR2 hU hb3 hR3 hB2
    have c0 := hU3.cell 0 rfl
    have c1 := hU3.cell 1 rfl
    have c2 := hU3.cell 2 rfl
    have c3 := hU3.cell 3 rfl
    have c4 := hU3.cell 4 rfl
    have c5 := hU3.cell 5 rfl
    have c6 := hU3.cell 6 rfl
    have c7 := hU3.cell 7 rfl
    clear hU3
    go_wp2_with fail
    refine (rsame_is _ _ _ _ _ _ _ _ _ _ _ _ _ _ _ _ _ _ _ _ _ _ _ HRa.out HRb.out (by omega)).mono ?_
    rintro e w4 ⟨rfl, hb4⟩
    rw [sameV_self]
    go_wp2
    go_ret
    exact ⟨rfl, bthen hB3 hb4⟩
  · obtain ⟨⟨b, f, bi, fi, k, s, wd, er, ys⟩, hD⟩ := dec_two []
    go_wp2_with fail
    refine ((hD _ _ _ _ HR.out hcap).1).mono ?_
    rintro e w2 ⟨x2, m2, k2, rfl, hb2, hR2, hm2⟩
    replace HR := Lib.hid ((HR.out.below hb2).below ((Below.refl _ _).alloc (Nat.le_refl _) (.cells #[.int .u8 b, .int .u8 f, .bool bi, .bool fi, .int .u8 k, .int .u8 s, .bool wd, .slice x2 m2 k2] 24)))
    have HR2 := Lib.hid (hR2.below ((Below.refl _ _).alloc (Nat.le_refl _) (.cells #[.int .u8 b, .int .u8 f, .bool bi, .bool fi, .int .u8 k, .int .u8 s, .bool wd, .slice x2 m2 k2] 24)))
    have hB2 := (bthen hB1 hb2).alloc (bthen hB1 hb2).size (.cells #[.int .u8 b, .int .u8 f, .bool bi, .bool fi, .int .u8 k, .int .u8 s, .bool wd, .slice x2 m2 k2] 24)
    have hU := Blk.new w2 [.int .u8 b, .int .u8 f, .bool bi, .bool fi, .int .u8 k, .int .u8 s, .bool wd, .slice x2 m2 k2] 24
    clear hb2 hR2 hB1
    go_wp2_with fail
    refine ((hD _ _ _ _ HR.out hcap).2).mono ?_
    rintro e w3 ⟨x3, m3, k3, rfl, hb3, hR3, hm3⟩
    have hU3 := hU.below hb3
    have hlt := hU3.lt
    have hB3 := (bthen hB2 hb3).alloc (bthen hB2 hb3).size (.cells #[.int .u8 b, .int .u8 f, .bool bi, .bool fi, .int .u8 k, .int .u8 s, .bool wd, .slice x3 m3 k3] 24)
    have HRa := Lib.hid ((HR2.out.below hb3).below ((Below.refl _ _).alloc (Nat.le_refl _) (.cells #[.int .u8 b, .int .u8 f, .bool bi, .bool fi, .int .u8 k, .int .u8 s, .bool wd, .slice x3 m3 k3] 24)))
    have HRb := Lib.hid (hR3.below ((Below.refl _ _).alloc (Nat.le_refl _) (.cells #[.int .u8 b, .int .u8 f, .bool bi, .bool fi, .int .u8 k, .int .u8 s, .bool wd, .slice x3 m3 k3] 24)))
    have hne : w2.heap.size ≠ w3.heap.size := by omega
    clear HR HR2 hU hb3 hR3 hB2
    have c0 := hU3.cell 0 rfl
    have c1 := hU3.cell 1 rfl
    have c2 := hU3.cell 2 rfl
    have c3 := hU3.cell 3 rfl
    have c4 := hU3.cell 4 rfl
    have c5 := hU3.cell 5 rfl
    have c6 := hU3.cell 6 rfl
    have c7 := hU3.cell 7 rfl
    clear hU3
    go_wp2_with fail
    refine (rsame_is _ _ _ _ _ _ _ _ _ _ _ _ _ _ _ _ _ _ _ _ _ _ _ HRa.out HRb.out (by omega)).mono ?_
    rintro e w4 ⟨rfl, hb4⟩
    rw [sameV_self]
    go_wp2
    go_ret
    exact ⟨rfl, bthen hB3 hb4⟩
set_option maxHeartbeats 1000000 in
theorem reads_no (a : Option Addr) (len cap : Nat) (zs : List Int) (w : World) (h0 : 0 < len) (hm : len ≤ 400) (hr : Row w a len zs) (h3 : True) : Calls Try.prog 5 #[.slice a len cap, .bool false] w fun e w' => e = .returned (.bool true) ∧ Below w.heap.size w w' := by
  obtain ⟨x, rfl, -⟩ := hr.2.2 0 h0
  obtain ⟨i0, hi, hz0, hz1, hz2⟩ := info_parts info5
  have hzs := hr.2.1
  have HP := Lib.hid hr
  have hl4 : (len : Int) ≤ 400 := by omega
  clear hr
  go_enter Try.func5, Try.ntmps5
  go_wp2_with fail
  refine (awake_is _).mono ?_
  rintro e w1 ⟨rfl, hb1⟩
  have HP1 := Lib.hid (HP.out.below hb1)
  go_upto_region 5 with (refine wpList_append_grows _ rfl (.tmp 19) (.tmp 20) 22 rfl 5 i0 (.int .u8 0) 1 1 Try.underlying22 hi hz0 hz1 hz2 rfl (by decide) none 0 0 [] rfl (fun h => ⟨rfl, rfl⟩) rfl (fun b hb j u hj => by cases hj) x len cap (zs.map (.int .u8)) rfl (by rw [List.length_map, HP1.out.1]; omega) (row_hc HP1.out) (map_one zs) (by omega) (by unfold maxLen; omega) (by omega) ?_; intro v' w' hown hgr)
  rw [Nat.zero_add, List.nil_append] at hown
  obtain ⟨g, c, rfl, hg, -⟩ := hown.form h0
  have hB1 := grown_below hgr hb1
  have HR := Lib.hid (own_row hown hzs)
  have hcap : len ≤ c := by
    obtain ⟨_, hh | ⟨g', c', _, he, _, _, hh, _⟩⟩ := hown
    · cases hh.1
    · cases he; exact hh
  clear hown hgr hb1 HP1 HP
  obtain ⟨⟨b, f, bi, fi, k, s, wd, er, ys⟩, hD⟩ := dec_two zs
  go_wp2_with fail
  refine ((hD _ _ _ _ HR.out hcap).1).mono ?_
  rintro e w2 ⟨x2, m2, k2, rfl, hb2, hR2, hm2⟩
  replace HR := Lib.hid ((HR.out.below hb2).below ((Below.refl _ _).alloc (Nat.le_refl _) (.cells #[.int .u8 b, .int .u8 f, .bool bi, .bool fi, .int .u8 k, .int .u8 s, .bool wd, .slice x2 m2 k2] 24)))
  have HR2 := Lib.hid (hR2.below ((Below.refl _ _).alloc (Nat.le_refl _) (.cells #[.int .u8 b, .int .u8 f, .bool bi, .bool fi, .int .u8 k, .int .u8 s, .bool wd, .slice x2 m2 k2] 24)))
  have hB2 := (bthen hB1 hb2).alloc (bthen hB1 hb2).size (.cells #[.int .u8 b, .int .u8 f, .bool bi, .bool fi, .int .u8 k, .int .u8 s, .bool wd, .slice x2 m2 k2] 24)
  have hU := Blk.new w2 [.int .u8 b, .int .u8 f, .bool bi, .bool fi, .int .u8 k, .int .u8 s, .bool wd, .slice x2 m2 k2] 24
  clear hb2 hR2 hB1
  go_wp2_with fail
  refine ((hD _ _ _ _ HR.out hcap).2).mono ?_
  rintro e w3 ⟨x3, m3, k3, rfl, hb3, hR3, hm3⟩
  have hU3 := hU.below hb3
  have hlt := hU3.lt
  have hB3 := (bthen hB2 hb3).alloc (bthen hB2 hb3).size (.cells #[.int .u8 b, .int .u8 f, .bool bi, .bool fi, .int .u8 k, .int .u8 s, .bool wd, .slice x3 m3 k3] 24)
  have HRa := Lib.hid ((HR2.out.below hb3).below ((Below.refl _ _).alloc (Nat.le_refl _) (.cells #[.int .u8 b, .int .u8 f, .bool bi, .bool fi, .int .u8 k, .int .u8 s, .bool wd, .slice x3 m3 k3] 24)))
  have HRb := Lib.hid (hR3.below ((Below.refl _ _).alloc (Nat.le_refl _) (.cells #[.int .u8 b, .int .u8 f, .bool bi, .bool fi, .int .u8 k, .int .u8 s, .bool wd, .slice x3 m3 k3] 24)))
  have hne : w2.heap.size ≠ w3.heap.size := by omega
  clear HR HR2 hU hb3 hR3 hB2
  have c0 := hU3.cell 0 rfl
  have c1 := hU3.cell 1 rfl
  have c2 := hU3.cell 2 rfl
  have c3 := hU3.cell 3 rfl
  have c4 := hU3.cell 4 rfl
  have c5 := hU3.cell 5 rfl
  have c6 := hU3.cell 6 rfl
  have c7 := hU3.cell 7 rfl
  clear hU3
  go_wp2_with fail
  refine (rsame_is _ _ _ _ _ _ _ _ _ _ _ _ _ _ _ _ _ _ _ _ _ _ _ HRa.out HRb.out (by omega)).mono ?_
  rintro e w4 ⟨rfl, hb4⟩
  rw [sameV_self]
  go_wp2
  go_ret
  exact ⟨rfl, bthen hB3 hb4⟩
set_option maxHeartbeats 1000000 in
theorem reads_few (a : Option Addr) (len cap : Nat) (zs : List Int) (w : World) (h0 : 0 < len) (hm : len ≤ 400) (hr : Row w a len zs) (h3 : ¬ (3 ≤ len)) : Calls Try.prog 5 #[.slice a len cap, .bool true] w fun e w' => e = .returned (.bool true) ∧ Below w.heap.size w w' := by
  have g3 : ¬ ((3 : Int) ≤ len) := by omega
  obtain ⟨x, rfl, -⟩ := hr.2.2 0 h0
  obtain ⟨i0, hi, hz0, hz1, hz2⟩ := info_parts info5
  have hzs := hr.2.1
  have HP := Lib.hid hr
  have hl4 : (len : Int) ≤ 400 := by omega
  clear hr
  go_enter Try.func5, Try.ntmps5
  go_wp2_with fail
  refine (awake_is _).mono ?_
  rintro e w1 ⟨rfl, hb1⟩
  have HP1 := Lib.hid (HP.out.below hb1)
  go_upto_region 5 with (refine wpList_append_grows _ rfl (.tmp 19) (.tmp 20) 22 rfl 5 i0 (.int .u8 0) 1 1 Try.underlying22 hi hz0 hz1 hz2 rfl (by decide) none 0 0 [] rfl (fun h => ⟨rfl, rfl⟩) rfl (fun b hb j u hj => by cases hj) x len cap (zs.map (.int .u8)) rfl (by rw [List.length_map, HP1.out.1]; omega) (row_hc HP1.out) (map_one zs) (by omega) (by unfold maxLen; omega) (by omega) ?_; intro v' w' hown hgr)
  rw [Nat.zero_add, List.nil_append] at hown
  obtain ⟨g, c, rfl, hg, -⟩ := hown.form h0
  have hB1 := grown_below hgr hb1
  have HR := Lib.hid (own_row hown hzs)
  have hcap : len ≤ c := by
    obtain ⟨_, hh | ⟨g', c', _, he, _, _, hh, _⟩⟩ := hown
    · cases hh.1
    · cases he; exact hh
  clear hown hgr hb1 HP1 HP
  obtain ⟨⟨b, f, bi, fi, k, s, wd, er, ys⟩, hD⟩ := dec_two zs
  go_wp2_with fail
  refine ((hD _ _ _ _ HR.out hcap).1).mono ?_
  rintro e w2 ⟨x2, m2, k2, rfl, hb2, hR2, hm2⟩
  replace HR := Lib.hid ((HR.out.below hb2).below ((Below.refl _ _).alloc (Nat.le_refl _) (.cells #[.int .u8 b, .int .u8 f, .bool bi, .bool fi, .int .u8 k, .int .u8 s, .bool wd, .slice x2 m2 k2] 24)))
  have HR2 := Lib.hid (hR2.below ((Below.refl _ _).alloc (Nat.le_refl _) (.cells #[.int .u8 b, .int .u8 f, .bool bi, .bool fi, .int .u8 k, .int .u8 s, .bool wd, .slice x2 m2 k2] 24)))
  have hB2 := (bthen hB1 hb2).alloc (bthen hB1 hb2).size (.cells #[.int .u8 b, .int .u8 f, .bool bi, .bool fi, .int .u8 k, .int .u8 s, .bool wd, .slice x2 m2 k2] 24)
  have hU := Blk.new w2 [.int .u8 b, .int .u8 f, .bool bi, .bool fi, .int .u8 k, .int .u8 s, .bool wd, .slice x2 m2 k2] 24
  clear hb2 hR2 hB1
  go_wp2_with fail
  refine ((hD _ _ _ _ HR.out hcap).2).mono ?_
  rintro e w3 ⟨x3, m3, k3, rfl, hb3, hR3, hm3⟩
  have hU3 := hU.below hb3
  have hlt := hU3.lt
  have hB3 := (bthen hB2 hb3).alloc (bthen hB2 hb3).size (.cells #[.int .u8 b, .int .u8 f, .bool bi, .bool fi, .int .u8 k, .int .u8 s, .bool wd, .slice x3 m3 k3] 24)
  have HRa := Lib.hid ((HR2.out.below hb3).below ((Below.refl _ _).alloc (Nat.le_refl _) (.cells #[.int .u8 b, .int .u8 f, .bool bi, .bool fi, .int .u8 k, .int .u8 s, .bool wd, .slice x3 m3 k3] 24)))
  have HRb := Lib.hid (hR3.below ((Below.refl _ _).alloc (Nat.le_refl _) (.cells #[.int .u8 b, .int .u8 f, .bool bi, .bool fi, .int .u8 k, .int .u8 s, .bool wd, .slice x3 m3 k3] 24)))
  have hne : w2.heap.size ≠ w3.heap.size := by omega
  clear HR HR2 hU hb3 hR3 hB2
  have c0 := hU3.cell 0 rfl
  have c1 := hU3.cell 1 rfl
  have c2 := hU3.cell 2 rfl
  have c3 := hU3.cell 3 rfl
  have c4 := hU3.cell 4 rfl
  have c5 := hU3.cell 5 rfl
  have c6 := hU3.cell 6 rfl
  have c7 := hU3.cell 7 rfl
  clear hU3
  go_wp2_with fail
  refine (rsame_is _ _ _ _ _ _ _ _ _ _ _ _ _ _ _ _ _ _ _ _ _ _ _ HRa.out HRb.out (by omega)).mono ?_
  rintro e w4 ⟨rfl, hb4⟩
  rw [sameV_self]
  go_wp2
  go_ret
  exact ⟨rfl, bthen hB3 hb4⟩
set_option maxHeartbeats 1000000 in
theorem reads_set_a (a : Option Addr) (len cap : Nat) (zs : List Int) (w : World) (h0 : 0 < len) (hm : len ≤ 400) (hr : Row w a len zs) (h3 : 3 ≤ len) (hk : ¬ (63 < len - 3)) : Calls Try.prog 5 #[.slice a len cap, .bool true] w fun e w' => e = .returned (.bool true) ∧ Below w.heap.size w w' := by
  have g3 : (3 : Int) ≤ len := by omega
  have g4 : ¬ ((63 : Int) < (len : Int) - 3) := by omega
  have g5 : ((len : Int) - 3) ≤ 63 := by omega
  obtain ⟨x, rfl, -⟩ := hr.2.2 0 h0
  obtain ⟨i0, hi, hz0, hz1, hz2⟩ := info_parts info5
  have hzs := hr.2.1
  have HP := Lib.hid hr
  have hl4 : (len : Int) ≤ 400 := by omega
  clear hr
  go_enter Try.func5, Try.ntmps5
  go_wp2_with fail
  refine (awake_is _).mono ?_
  rintro e w1 ⟨rfl, hb1⟩
  have HP1 := Lib.hid (HP.out.below hb1)
  go_upto_region 5 with (refine wpList_append_grows _ rfl (.tmp 19) (.tmp 20) 22 rfl 5 i0 (.int .u8 0) 1 1 Try.underlying22 hi hz0 hz1 hz2 rfl (by decide) none 0 0 [] rfl (fun h => ⟨rfl, rfl⟩) rfl (fun b hb j u hj => by cases hj) x len cap (zs.map (.int .u8)) rfl (by rw [List.length_map, HP1.out.1]; omega) (row_hc HP1.out) (map_one zs) (by omega) (by unfold maxLen; omega) (by omega) ?_; intro v' w' hown hgr)
  rw [Nat.zero_add, List.nil_append] at hown
  obtain ⟨g, c, rfl, hg, -⟩ := hown.form h0
  have hB1 := grown_below hgr hb1
  have HR := Lib.hid (own_row hown hzs)
  have hcap : len ≤ c := by
    obtain ⟨_, hh | ⟨g', c', _, he, _, _, hh, _⟩⟩ := hown
    · cases hh.1
    · cases he; exact hh
  have c2 := hown.cellAt 2 (by omega)
  have f2 := hown.frozenAt 2
  have hgw : w.heap.size ≤ g := Nat.le_trans hb1.size hg
  obtain ⟨z2, hz2⟩ : ∃ z, (zs.map (Value.int .u8))[2]? = some (.int .u8 z) := ⟨_, by rw [List.getElem?_map, List.getElem?_eq_getElem (by rw [HP.out.1]; omega)]; rfl⟩
  rw [hz2] at c2
  clear hgr hb1 HP1 HP hz2
  have HO := Lib.hid hown
  clear hown HR
  go_upto_region 10 with fail
  generalize hV : z2.tdiv 64 % 256 * 64 % 256 + ((len : Int) - 3) = V
  have hV0 : 0 ≤ V ∧ V < 256 := by omega
  have hown2 := (HO.out.stored 2 (.int .u8 V)).1
  rw [← List.map_set] at hown2
  have HR := Lib.hid (own_row hown2 (fun z hz => by
    rcases List.mem_or_eq_of_mem_set hz with h | h
    · exact hzs z h
    · rw [h]; exact hV0))
  replace hB1 : Below w.heap.size w (w'.setCell ⟨g, 2, none⟩ (.int .u8 V)) := hB1.trans ((Fr.set1 w' ⟨g, 2, none⟩ (.int .u8 V)).below hB1.size (fun k hk => by rw [hk]; exact hgw))
  clear hown2 HO c2 f2 hV
  generalize w'.setCell ⟨g, 2, none⟩ (.int .u8 V) = w'' at *
  obtain ⟨⟨b, f, bi, fi, k, s, wd, er, ys⟩, hD⟩ := dec_two (zs.set 2 V)
  go_wp2_with fail
  refine ((hD _ _ _ _ HR.out hcap).1).mono ?_
  rintro e w2 ⟨x2, m2, k2, rfl, hb2, hR2, hm2⟩
  replace HR := Lib.hid ((HR.out.below hb2).below ((Below.refl _ _).alloc (Nat.le_refl _) (.cells #[.int .u8 b, .int .u8 f, .bool bi, .bool fi, .int .u8 k, .int .u8 s, .bool wd, .slice x2 m2 k2] 24)))
  have HR2 := Lib.hid (hR2.below ((Below.refl _ _).alloc (Nat.le_refl _) (.cells #[.int .u8 b, .int .u8 f, .bool bi, .bool fi, .int .u8 k, .int .u8 s, .bool wd, .slice x2 m2 k2] 24)))
  have hB2 := (bthen hB1 hb2).alloc (bthen hB1 hb2).size (.cells #[.int .u8 b, .int .u8 f, .bool bi, .bool fi, .int .u8 k, .int .u8 s, .bool wd, .slice x2 m2 k2] 24)
  have hU := Blk.new w2 [.int .u8 b, .int .u8 f, .bool bi, .bool fi, .int .u8 k, .int .u8 s, .bool wd, .slice x2 m2 k2] 24
  clear hb2 hR2 hB1
  go_wp2_with fail
  refine ((hD _ _ _ _ HR.out hcap).2).mono ?_
  rintro e w3 ⟨x3, m3, k3, rfl, hb3, hR3, hm3⟩
  have hU3 := hU.below hb3
  have hlt := hU3.lt
  have hB3 := (bthen hB2 hb3).alloc (bthen hB2 hb3).size (.cells #[.int .u8 b, .int .u8 f, .bool bi, .bool fi, .int .u8 k, .int .u8 s, .bool wd, .slice x3 m3 k3] 24)
  have HRa := Lib.hid ((HR2.out.below hb3).below ((Below.refl _ _).alloc (Nat.le_refl _) (.cells #[.int .u8 b, .int .u8 f, .bool bi, .bool fi, .int .u8 k, .int .u8 s, .bool wd, .slice x3 m3 k3] 24)))
  have HRb := Lib.hid (hR3.below ((Below.refl _ _).alloc (Nat.le_refl _) (.cells #[.int .u8 b, .int .u8 f, .bool bi, .bool fi, .int .u8 k, .int .u8 s, .bool wd, .slice x3 m3 k3] 24)))
  have hne : w2.heap.size ≠ w3.heap.size := by omega
  clear HR HR2 hU hb3 hR3 hB2
  have c0 := hU3.cell 0 rfl
  have c1 := hU3.cell 1 rfl
  have c2 := hU3.cell 2 rfl
  have c3 := hU3.cell 3 rfl
  have c4 := hU3.cell 4 rfl
  have c5 := hU3.cell 5 rfl
  have c6 := hU3.cell 6 rfl
  have c7 := hU3.cell 7 rfl
  clear hU3
  go_wp2_with fail
  refine (rsame_is _ _ _ _ _ _ _ _ _ _ _ _ _ _ _ _ _ _ _ _ _ _ _ HRa.out HRb.out (by omega)).mono ?_
  rintro e w4 ⟨rfl, hb4⟩
  rw [sameV_self]
  go_wp2
  go_ret
  exact ⟨rfl, bthen hB3 hb4⟩
set_option maxHeartbeats 1000000 in
theorem reads_set_b (a : Option Addr) (len cap : Nat) (zs : List Int) (w : World) (h0 : 0 < len) (hm : len ≤ 400) (hr : Row w a len zs) (h3 : 3 ≤ len) (hk : 63 < len - 3) : Calls Try.prog 5 #[.slice a len cap, .bool true] w fun e w' => e = .returned (.bool true) ∧ Below w.heap.size w w' := by
  have g3 : (3 : Int) ≤ len := by omega
  have g4 : (63 : Int) < (len : Int) - 3 := by omega
  obtain ⟨x, rfl, -⟩ := hr.2.2 0 h0
  obtain ⟨i0, hi, hz0, hz1, hz2⟩ := info_parts info5
  have hzs := hr.2.1
  have HP := Lib.hid hr
  have hl4 : (len : Int) ≤ 400 := by omega
  clear hr
  go_enter Try.func5, Try.ntmps5
  go_wp2_with fail
  refine (awake_is _).mono ?_
  rintro e w1 ⟨rfl, hb1⟩
  have HP1 := Lib.hid (HP.out.below hb1)
  go_upto_region 5 with (refine wpList_append_grows _ rfl (.tmp 19) (.tmp 20) 22 rfl 5 i0 (.int .u8 0) 1 1 Try.underlying22 hi hz0 hz1 hz2 rfl (by decide) none 0 0 [] rfl (fun h => ⟨rfl, rfl⟩) rfl (fun b hb j u hj => by cases hj) x len cap (zs.map (.int .u8)) rfl (by rw [List.length_map, HP1.out.1]; omega) (row_hc HP1.out) (map_one zs) (by omega) (by unfold maxLen; omega) (by omega) ?_; intro v' w' hown hgr)
  rw [Nat.zero_add, List.nil_append] at hown
  obtain ⟨g, c, rfl, hg, -⟩ := hown.form h0
  have hB1 := grown_below hgr hb1
  have HR := Lib.hid (own_row hown hzs)
  have hcap : len ≤ c := by
    obtain ⟨_, hh | ⟨g', c', _, he, _, _, hh, _⟩⟩ := hown
    · cases hh.1
    · cases he; exact hh
  have c2 := hown.cellAt 2 (by omega)
  have f2 := hown.frozenAt 2
  have hgw : w.heap.size ≤ g := Nat.le_trans hb1.size hg
  obtain ⟨z2, hz2⟩ : ∃ z, (zs.map (Value.int .u8))[2]? = some (.int .u8 z) := ⟨_, by rw [List.getElem?_map, List.getElem?_eq_getElem (by rw [HP.out.1]; omega)]; rfl⟩
  rw [hz2] at c2
  clear hgr hb1 HP1 HP hz2
  have HO := Lib.hid hown
  clear hown HR
  go_upto_region 10 with fail
  generalize hV : z2.tdiv 64 % 256 * 64 % 256 + 63 = V
  have hV0 : 0 ≤ V ∧ V < 256 := by omega
  have hown2 := (HO.out.stored 2 (.int .u8 V)).1
  rw [← List.map_set] at hown2
  have HR := Lib.hid (own_row hown2 (fun z hz => by
    rcases List.mem_or_eq_of_mem_set hz with h | h
    · exact hzs z h
    · rw [h]; exact hV0))
  replace hB1 : Below w.heap.size w (w'.setCell ⟨g, 2, none⟩ (.int .u8 V)) := hB1.trans ((Fr.set1 w' ⟨g, 2, none⟩ (.int .u8 V)).below hB1.size (fun k hk => by rw [hk]; exact hgw))
  clear hown2 HO c2 f2 hV
  generalize w'.setCell ⟨g, 2, none⟩ (.int .u8 V) = w'' at *
  obtain ⟨⟨b, f, bi, fi, k, s, wd, er, ys⟩, hD⟩ := dec_two (zs.set 2 V)
  go_wp2_with fail
  refine ((hD _ _ _ _ HR.out hcap).1).mono ?_
  rintro e w2 ⟨x2, m2, k2, rfl, hb2, hR2, hm2⟩
  replace HR := Lib.hid ((HR.out.below hb2).below ((Below.refl _ _).alloc (Nat.le_refl _) (.cells #[.int .u8 b, .int .u8 f, .bool bi, .bool fi, .int .u8 k, .int .u8 s, .bool wd, .slice x2 m2 k2] 24)))
  have HR2 := Lib.hid (hR2.below ((Below.refl _ _).alloc (Nat.le_refl _) (.cells #[.int .u8 b, .int .u8 f, .bool bi, .bool fi, .int .u8 k, .int .u8 s, .bool wd, .slice x2 m2 k2] 24)))
  have hB2 := (bthen hB1 hb2).alloc (bthen hB1 hb2).size (.cells #[.int .u8 b, .int .u8 f, .bool bi, .bool fi, .int .u8 k, .int .u8 s, .bool wd, .slice x2 m2 k2] 24)
  have hU := Blk.new w2 [.int .u8 b, .int .u8 f, .bool bi, .bool fi, .int .u8 k, .int .u8 s, .bool wd, .slice x2 m2 k2] 24
  clear hb2 hR2 hB1
  go_wp2_with fail
  refine ((hD _ _ _ _ HR.out hcap).2).mono ?_
  rintro e w3 ⟨x3, m3, k3, rfl, hb3, hR3, hm3⟩
  have hU3 := hU.below hb3
  have hlt := hU3.lt
  have hB3 := (bthen hB2 hb3).alloc (bthen hB2 hb3).size (.cells #[.int .u8 b, .int .u8 f, .bool bi, .bool fi, .int .u8 k, .int .u8 s, .bool wd, .slice x3 m3 k3] 24)
  have HRa := Lib.hid ((HR2.out.below hb3).below ((Below.refl _ _).alloc (Nat.le_refl _) (.cells #[.int .u8 b, .int .u8 f, .bool bi, .bool fi, .int .u8 k, .int .u8 s, .bool wd, .slice x3 m3 k3] 24)))
  have HRb := Lib.hid (hR3.below ((Below.refl _ _).alloc (Nat.le_refl _) (.cells #[.int .u8 b, .int .u8 f, .bool bi, .bool fi, .int .u8 k, .int .u8 s, .bool wd, .slice x3 m3 k3] 24)))
  have hne : w2.heap.size ≠ w3.heap.size := by omega
  clear HR HR2 hU hb3 hR3 hB2
  have c0 := hU3.cell 0 rfl
  have c1 := hU3.cell 1 rfl
  have c2 := hU3.cell 2 rfl
  have c3 := hU3.cell 3 rfl
  have c4 := hU3.cell 4 rfl
  have c5 := hU3.cell 5 rfl
  have c6 := hU3.cell 6 rfl
  have c7 := hU3.cell 7 rfl
  clear hU3
  go_wp2_with fail
  refine (rsame_is _ _ _ _ _ _ _ _ _ _ _ _ _ _ _ _ _ _ _ _ _ _ _ HRa.out HRb.out (by omega)).mono ?_
  rintro e w4 ⟨rfl, hb4⟩
  rw [sameV_self]
  go_wp2
  go_ret
  exact ⟨rfl, bthen hB3 hb4⟩

theorem reads_row (a : Option Addr) (len cap : Nat) (zs : List Int) (li : Bool) (W : World) (hr : Row W a len zs) : Calls Try.prog 5 #[.slice a len cap, .bool li] W fun e w' => e = .returned (.bool true) ∧ Below W.heap.size W w' := by
  by_cases h4 : 400 < len
  · exact reads_long a len cap li W h4
  by_cases h0 : len = 0
  · subst h0
    cases a with
    | none => exact reads_nil_none cap li W
    | some x => exact reads_nil_some x cap li W
  cases li
  · exact reads_no a len cap zs W (by omega) (by omega) hr trivial
  by_cases h3 : 3 ≤ len
  case neg => exact reads_few a len cap zs W (by omega) (by omega) hr h3
  by_cases hk : 63 < len - 3
  · exact reads_set_b a len cap zs W (by omega) (by omega) hr h3 hk
  · exact reads_set_a a len cap zs W (by omega) (by omega) hr h3 hk
end Go.Proofs.Ytpgalefpccgpfaa
