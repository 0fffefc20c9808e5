/-
  AlignWhole: it is proved only when a whole time of proving went by in which it wasn't given up.
-/
import Derived.Test.YtpalpoecakijnaaActs
import Derived.Test.YtpalpoecakijnaaWholeP
namespace Go.Proofs.Ytpalpoecakijnaa
open Go.RowKit
set_option linter.unusedVariables false
set_option linter.unusedSimpArgs false

theorem wrapW (n : Int) (h : -1000 ≤ n ∧ n ≤ 1000) : IntKind.i64.wrap n = n := by
  simp [IntKind.wrap, IntKind.bits, IntKind.signed]
  split <;> omega
theorem whole_long (a : Option Addr) (len cap : Nat) (hu : Bool) (w : World) (h : 150 < len) (hm : len ≤ 9223372036854775807) : Calls Try.prog 14 #[.slice a len cap, .bool hu] w fun e w' => e = .returned (.bool true) ∧ Below w.heap.size w w' := by
  have h1 : (150 : Int) < len := by omega
  go_enter Try.func14, Try.ntmps14
  go_wp2_with fail
  refine (awake14_any _).mono ?_
  rintro e w1 ⟨rfl, hb1⟩
  go_wp2_with fail
  refine (awake14_any _).mono ?_
  rintro e w2 ⟨rfl, hb2⟩
  go_wp2
  go_ret
  exact ⟨rfl, bthen hb1 hb2⟩

set_option maxRecDepth 100000 in
set_option maxHeartbeats 4000000 in
theorem whole_main (a : Option Addr) (len cap : Nat) (hu : Bool) (w : World) (h : len ≤ 150) (hz : Acts w a len) : Calls Try.prog 14 #[.slice a len cap, .bool hu] w fun e w' => e = .returned (.bool true) ∧ Below w.heap.size w w' := by
  have Hz := Lib.hid hz
  clear hz
  have h1 : ¬ ((150 : Int) < len) := by omega
  go_enter Try.func14, Try.ntmps14
  go_wp2_with fail
  refine (awake14_any _).mono ?_
  rintro e w0 ⟨rfl, hB⟩
  go_wp2_with fail
  refine (usual_any _ _).mono ?_
  rintro e w1 ⟨rfl, hb⟩
  replace hB := bthen hB hb
  have hs1 := hB.size
  clear hb
  have hC := Ck.new (w1.alloc (.cells #[.bool false, .int .i64 8, .int .i64 300, .int .i64 16, .int .i64 600, .int .i64 6, .int .i64 99, .int .i64 99, .int .i64 99, .int .i64 20, .int .i64 5, .int .i64 9, .int .i64 9] 34))
  replace hB := (hB.alloc hs1 (.cells #[.bool false, .int .i64 8, .int .i64 300, .int .i64 16, .int .i64 600, .int .i64 6, .int .i64 99, .int .i64 99, .int .i64 99, .int .i64 20, .int .i64 5, .int .i64 9, .int .i64 9] 34)).alloc (by simp; omega) (.cells #[.int .i64 0, .int .i64 0, .int .i64 0, .int .i64 0, .int .i64 0, .int .i64 0, .int .i64 0, .int .i64 0] 25)
  rw [World.size_alloc] at hC
  go_wp2_with fail
  refine (anew_any _ _ _ _ _ _ _ _ _ _ _ _ _ _ _ _ hC).mono ?_
  rintro e w2 ⟨j, rfl, hj, hJ, hb⟩
  have hjB : w.heap.size ≤ j := by simp only [World.size_alloc] at hj; omega
  have hcB : w.heap.size ≤ w1.heap.size + 1 := by omega
  replace hB := bthen hB hb
  have hs2 := hB.size
  clear hC hb hj
  generalize w1.heap.size + 1 = C at *
  go_wp2_with fail
  refine (ahurryon_any j _ _ _ _ _ _ hJ).mono ?_
  rintro e w3 ⟨rfl, hJ3, hF⟩
  replace hB := hB.trans (hF.two_below hjB hcB hB.size)
  clear hJ hF
  go_wp2_with fail
  refine (abegin_any j _ _ _ _ _ hJ3).mono ?_
  rintro e w4 ⟨rfl, hJ4, hF⟩
  replace hB := hB.trans (hF.two_below hjB hcB hB.size)
  clear hJ3 hF
  obtain ⟨s0, hs⟩ : ∃ s, aBegin wT (aHurry wT hu ⟨0, false, false, false, 0, 0, [0, 0, 0, 0, 0, 0, 0, 0]⟩) = s := ⟨_, rfl⟩
  have hw : Wh s0 (-1) ∧ s0.pn = 0 ∧ s0.pt = 0 := by rw [← hs]; cases hu <;> exact ⟨.inl ⟨rfl, rfl, 99, by decide, by decide⟩, rfl, rfl⟩
  rw [hs] at hJ4
  clear hs
  go_wp2_with fail
  go_loopw [8, 9] (fun q i wr => ∃ (k : Nat) (s : AS) (since : Int), q = .int .i64 since ∧ i = .int .i64 k ∧ k ≤ len ∧ AC wr j C uS wT s ∧ Wh s since ∧ (0 ≤ s.pn ∧ s.pn ≤ k ∧ 0 ≤ s.pt ∧ s.pt ≤ k ∧ since ≤ k) ∧ Below w.heap.size w wr) (fun _ i _ => len - (intOf i).toNat)
  case atStart => exact ⟨0, s0, -1, rfl, rfl, by omega, hJ4, hw.1, by rw [hw.2.1, hw.2.2]; decide, hB⟩
  case round =>
    clear hw hJ4 hB
    obtain ⟨k, s, since, rfl, rfl, hk, hA, hw, hbd, hB⟩ := hrel
    have hsw := hB.size
    by_cases hlt : k < len
    case neg =>
      go_wp2
      go_ret
      exact ⟨rfl, hB⟩
    obtain ⟨x, kk, y, rfl, q0, q1, bk, by'⟩ := (Hz.out.below hB) k hlt
    have e1 : x.add (k * 2 + 1) = ⟨(x.add (k * 2)).block, (x.add (k * 2)).off + 1, none⟩ := by rw [← Go.Deep.add_add]; rfl
    rw [e1] at q1
    have hA2 := hA.alloc (.cells #[.int .u8 kk, .int .u8 y] 76)
    have hB2 := hB.alloc hsw (.cells #[.int .u8 kk, .int .u8 y] 76)
    have hjw : j ≠ wr.heap.size := by have := hA.blk.lt; omega
    have h14 : (wr.alloc (.cells #[.int .u8 kk, .int .u8 y] 76)).cell? ⟨j, 14, none⟩ = some (.int .u8 s.st) := hA2.st
    have hst := wh_st hw
    have hCw : C < wr.heap.size := hA.ck.lt
    have hjlt : j < wr.heap.size := hA.blk.lt
    by_cases hc1 : kk % 10 < 2
    · go_wp2_with fail
      refine (aheard_any j _ _ _ _ _ _ hA2 (by omega) (by omega)).mono ?_
      rintro e w5 ⟨rfl, hA5, hF5⟩
      have hy0 : aHeardWhy (y % 3) s = 0 := by unfold aHeardWhy; rw [if_neg (by omega)]
      rw [hy0]
      obtain ⟨hcase, hpn, hpt⟩ := whole_heard s since (y % 3) (by omega) hw
      have hB5 := hB2.trans (hF5.two_below hjB hcB hB2.size)
      have h14' := hA5.st
      have hsi := wh_since hw
      clear hA2 hB2 hA hB hF5 hy0 h14 hw
      generalize aHeard wT (y % 3) s = s' at *
      rcases hcase with ⟨h5, h6⟩ | ⟨h5, h7, h6⟩ | ⟨h5, h7, h6⟩
      · have b1 : (s'.st == 3) = false := by simp [h5]
        have b2 : (s'.st != 3) = true := by simp [h5]
        go_wp2
        exact ⟨⟨k + 1, s', -1, rfl, by go_num, by omega, hA5, h6, by omega, hB5⟩, by simp [intOf]; omega⟩
      · rw [h5] at h14'
        have b1 : (s.st == 3) = true := by simp [h7]
        have b2 : (s.st != 3) = false := by simp [h7]
        clear h5 h7
        go_wp2
        exact ⟨⟨k + 1, s', since, rfl, by go_num, by omega, hA5, h6, by omega, hB5⟩, by simp [intOf]; omega⟩
      · rw [h5] at h14'
        have b1 : (s.st == 3) = false := by simp [h7]
        have b2 : (s.st != 3) = true := by simp [h7]
        clear h5 h7
        go_wp2
        exact ⟨⟨k + 1, s', 0, rfl, by go_num, by omega, hA5, h6, by omega, hB5⟩, by simp [intOf]; omega⟩
    by_cases hc2 : kk % 10 = 2
    · go_wp2_with fail
      refine (atries_same j _ _ _ _ _ hA2).mono ?_
      rintro e _ ⟨rfl, rfl⟩
      go_wp2_with fail
      refine (aunit_any j _ _ _ _ true _ hA2 (by omega) (by omega)).mono ?_
      rintro e w5 ⟨rfl, hA5, hF5⟩
      have hB5 := hB2.trans (hF5.two_below hjB hcB hB2.size)
      have hsi := wh_since hw
      by_cases hy : aUnitWhy true s = 0
      · rw [hy]
        obtain ⟨hcase, hpn, hpt⟩ := whole_unit s since hw hy ⟨by omega, by omega⟩
        clear hA2 hB2 hA hB hF5 hy h14 hw
        generalize aUnit wT true s = s' at *
        go_wp2_with fail
        refine (atries_same j _ _ _ _ _ hA5).mono ?_
        rintro e _ ⟨rfl, rfl⟩
        rcases hcase with ⟨h5, h6⟩ | ⟨h5, h6⟩
        · have b1 : (s'.pt == s.pt) = false := by simp [h5]
          have b2 : (s'.pt != s.pt) = true := by simp [h5]
          clear h5
          go_wp2
          exact ⟨⟨k + 1, s', 0, rfl, by go_num, by omega, hA5, h6, by omega, hB5⟩, by simp [intOf]; omega⟩
        · have b1 : (s'.pt == s.pt) = true := by simp [h5]
          have b2 : (s'.pt != s.pt) = false := by simp [h5]
          clear h5
          go_wp2
          exact ⟨⟨k + 1, s', since, rfl, by go_num, by omega, hA5, h6, by omega, hB5⟩, by simp [intOf]; omega⟩
      · have b1 : (aUnitWhy true s == 0) = false := by simp [hy]
        have b2 : (aUnitWhy true s != 0) = true := by simp [hy]
        generalize aUnitWhy true s = yy at *
        go_wp2
        go_ret
        exact ⟨rfl, hB5⟩
    · have b0 : (kk % 10 == 2) = false := by simp [hc2]
      have hsi := wh_since hw
      go_wp2_with fail
      refine (tick_at C _ s.l (tickO s.l 8) hA2.ck rfl).mono ?_
      rintro e w5 ⟨A, cp, rfl, hR, hCk, hF5⟩
      have hA5 := hA2.clk hF5 hCk
      have hB5 := hB2.trans (hF5.new hcB hB2.size)
      have htick := whole_tick s since hw
      clear hw h14 hA2 hB2 hA hB hF5 hCk
      rcases htick with ⟨ho, h6⟩ | ⟨t, ho, ht⟩
      · rw [ho]
        clear hR
        have HA := Lib.hid hA5
        have HW := Lib.hid h6
        clear hA5 h6 ho
        by_cases hs : 0 ≤ since
        · rw [show sinceT since = since + 1 from by unfold sinceT; rw [if_pos hs]] at HW
          have hwr : IntKind.i64.wrap (since + 1) = since + 1 := wrapW _ (by omega)
          go_wp2_with fail
          go_loopw [15] (fun q wr => q = .int .i64 0 ∧ wr = w5) (fun _ _ => 0)
          case atStart => exact ⟨rfl, rfl⟩
          case round =>
            obtain ⟨rfl, rfl⟩ := hrel
            go_wp2
            exact ⟨⟨k + 1, { s with l := tickL s.l }, _, rfl, by go_num, by omega, HA.out, HW.out, by refine ⟨hbd.1, ?_, hbd.2.2.1, ?_, ?_⟩ <;> (show _ ≤ _) <;> first | omega | (have := hbd.2.1; show s.pn ≤ _; omega) | (have := hbd.2.2.2.1; show s.pt ≤ _; omega), hB5⟩, by simp [intOf]; omega⟩
        · rw [show sinceT since = since from by unfold sinceT; rw [if_neg hs]] at HW
          go_wp2_with fail
          go_loopw [15] (fun q wr => q = .int .i64 0 ∧ wr = w5) (fun _ _ => 0)
          case atStart => exact ⟨rfl, rfl⟩
          case round =>
            obtain ⟨rfl, rfl⟩ := hrel
            go_wp2
            exact ⟨⟨k + 1, { s with l := tickL s.l }, _, rfl, by go_num, by omega, HA.out, HW.out, by refine ⟨hbd.1, ?_, hbd.2.2.1, ?_, ?_⟩ <;> (show _ ≤ _) <;> first | omega | (have := hbd.2.1; show s.pn ≤ _; omega) | (have := hbd.2.2.2.1; show s.pt ≤ _; omega), hB5⟩, by simp [intOf]; omega⟩
      · rw [ho] at hR ⊢
        obtain ⟨g, rfl, hg0, -, hg⟩ := hR (by simp)
        have hc5 : w5.cell? ⟨g, 0, none⟩ = some (.int .i64 t) := by simpa using hg 0 (by simp)
        have hgj : g ≠ j ∧ g ≠ C := by simp only [World.size_alloc] at hg0; constructor <;> omega
        have HA := Lib.hid hA5
        clear hA5 hR hg ho
        by_cases hs : 0 ≤ since
        · rw [show sinceT since = since + 1 from by unfold sinceT; rw [if_pos hs]] at ht
          have hwr : IntKind.i64.wrap (since + 1) = since + 1 := wrapW _ (by omega)
          go_wp2_with fail
          go_loopw [15] (fun q wr => q = .int .i64 0 ∧ wr = w5) (fun _ _ => 0)
          case atStart => exact ⟨rfl, rfl⟩
          case round =>
            obtain ⟨rfl, rfl⟩ := hrel
            go_wp2_with fail
            refine (aout_any j _ _ _ _ _ _ HA.out).mono ?_
            rintro e w6 ⟨rfl, -, hF6⟩
            have hB6 := hB5.trans (hF6.two_below hjB hcB hB5.size)
            have hc6 : w6.cell? ⟨g, 0, none⟩ = some (.int .i64 t) := by
              rw [← hc5]
              exact World.cell?_of_block (w := wr) (hF6.block _ (World.block_lt_of_cell? _ _ hc5) (by rintro (h | h); exact hgj.1 h; exact hgj.2 h))
            clear hF6
            rcases ht with ⟨rfl, h5⟩ | ⟨rfl, h5⟩ | ⟨h5, rfl, h6⟩ | ⟨h5, rfl, h6⟩
            · rw [show aOutWhy 2 { s with l := tickL s.l } = 7 from by simp [aOutWhy, h5]]
              go_wp2
              go_ret
              exact ⟨rfl, hB6⟩
            · rw [show aOutWhy 3 { s with l := tickL s.l } = 7 from by simp [aOutWhy, h5]]
              go_wp2
              go_ret
              exact ⟨rfl, hB6⟩
            · rw [show aOutWhy 0 { s with l := tickL s.l } = 0 from by simp [aOutWhy, h5], show aDone 0 { s with l := tickL s.l } = true from by simp [aDone, h5]]
              have h7 : (6 : Int) ≤ since + 1 := h6
              go_wp2
              all_goals go_ret
              all_goals exact ⟨rfl, hB6⟩
            · rw [show aOutWhy 4 { s with l := tickL s.l } = 0 from by simp [aOutWhy, h5], show aDone 4 { s with l := tickL s.l } = true from by simp [aDone, h5]]
              have h7 : (20 : Int) ≤ since + 1 := h6
              have h8 : (6 : Int) ≤ since + 1 := by omega
              go_wp2
              go_ret
              exact ⟨rfl, hB6⟩
        · rw [show sinceT since = since from by unfold sinceT; rw [if_neg hs]] at ht
          go_wp2_with fail
          go_loopw [15] (fun q wr => q = .int .i64 0 ∧ wr = w5) (fun _ _ => 0)
          case atStart => exact ⟨rfl, rfl⟩
          case round =>
            obtain ⟨rfl, rfl⟩ := hrel
            go_wp2_with fail
            refine (aout_any j _ _ _ _ _ _ HA.out).mono ?_
            rintro e w6 ⟨rfl, -, hF6⟩
            have hB6 := hB5.trans (hF6.two_below hjB hcB hB5.size)
            have hc6 : w6.cell? ⟨g, 0, none⟩ = some (.int .i64 t) := by
              rw [← hc5]
              exact World.cell?_of_block (w := wr) (hF6.block _ (World.block_lt_of_cell? _ _ hc5) (by rintro (h | h); exact hgj.1 h; exact hgj.2 h))
            clear hF6
            rcases ht with ⟨rfl, h5⟩ | ⟨rfl, h5⟩ | ⟨h5, rfl, h6⟩ | ⟨h5, rfl, h6⟩
            · rw [show aOutWhy 2 { s with l := tickL s.l } = 7 from by simp [aOutWhy, h5]]
              go_wp2
              go_ret
              exact ⟨rfl, hB6⟩
            · rw [show aOutWhy 3 { s with l := tickL s.l } = 7 from by simp [aOutWhy, h5]]
              go_wp2
              go_ret
              exact ⟨rfl, hB6⟩
            · exact absurd h6 (by omega)
            · exact absurd h6 (by omega)

theorem whole_row (a : Option Addr) (len cap : Nat) (zs : List Int) (hu : Bool) (W : World) (hz : Acts W a len ∧ len ≤ maxLen) : Calls Try.prog 14 #[.slice a len cap, .bool hu] W fun e w' => e = .returned (.bool true) ∧ Below W.heap.size W w' := by
  by_cases h : len ≤ 150
  · exact whole_main a len cap hu W h hz.1
  · exact whole_long a len cap hu W (by omega) hz.2
end Go.Proofs.Ytpalpoecakijnaa
