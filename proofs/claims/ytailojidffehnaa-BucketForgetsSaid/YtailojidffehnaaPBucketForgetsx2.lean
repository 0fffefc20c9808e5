-- PRINTED BY print.sh 35421559b90ae4d0a3588c463048766b98c2df88dd9212a6774a882060cdf62d: not written by this session
import Derived.Test.YtailojidffehnaaPBucketForgetsx0
import Derived.Test.YtailojidffehnaaPBucketForgetsx1
namespace Go.Proofs.Ytailojidffehnaa.PBucketForgets
open Go.RowKit Go.Proofs.YtailojidffehnaaW.PrintWords Go.Proofs.YtailojidffehnaaW.PrintLast Go.Proofs.YtailojidffehnaaW.PrintMore
attribute [local go_sem] max2_int min2_int max_two min_two max_three min_three max_four min_four   -- for this text's walks alone
set_option linter.unusedVariables false
set_option linter.unusedSimpArgs false

/-! ### signalmanlaw08_BucketForgets: function 10 -/
mutual
def signalmanlaw08_BucketForgets.l0 : Nat → Int → Int → Int → Int → Option (Bool)
  | 0, _, _, _, _ => none
  | k + 1, x6, x7, x115000, x115001 => if x7 < x6 then ((bucket_Leak_Unit.f k x115000 x115001 true).bind fun bt115 => (signalmanlaw08_BucketForgets.l0 k x6 (wrap64 (x7 + 1)) bt115.1 bt115.2.1)) else (if x115000 = x6 then (signalmanlaw08_BucketForgets.l1 k x6 0 x115000 x115001) else (some false))
def signalmanlaw08_BucketForgets.l1 : Nat → Int → Int → Int → Int → Option (Bool)
  | 0, _, _, _, _ => none
  | k + 1, x6, x8, x115000, x115001 => if x8 < (wrap64 (256 * x6)) then ((bucket_Leak_Unit.f k x115000 x115001 false).bind fun bt118 => (signalmanlaw08_BucketForgets.l1 k x6 (wrap64 (x8 + 1)) bt118.1 bt118.2.1)) else (if x115000 ≤ 1 then (some (decide (x115000 ≥ 0))) else (some false))
end
def signalmanlaw08_BucketForgets.f (k : Nat) (a0 : Int) (a1 : Int) : Option (Bool) := (signalmanlaw08_awake.f k).bind fun t113 => (if t113 = true then (signalmanlaw08_BucketForgets.l0 k (Int.tmod (wrap64 (a0)) 60) 0 0 0) else (some false))
theorem signalmanlaw08_BucketForgets.mono_l : ∀ k, (∀ y0 y1 y2 y3, LeO (signalmanlaw08_BucketForgets.l0 k y0 y1 y2 y3) (signalmanlaw08_BucketForgets.l0 (k + 1) y0 y1 y2 y3)) ∧ (∀ y0 y1 y2 y3, LeO (signalmanlaw08_BucketForgets.l1 k y0 y1 y2 y3) (signalmanlaw08_BucketForgets.l1 (k + 1) y0 y1 y2 y3))
  | 0 => ⟨fun _ _ _ _ r h => by simp [signalmanlaw08_BucketForgets.l0] at h, fun _ _ _ _ r h => by simp [signalmanlaw08_BucketForgets.l1] at h⟩
  | k + 1 => by
    obtain ⟨ih0, ih1⟩ := signalmanlaw08_BucketForgets.mono_l k
    refine ⟨?_, ?_⟩
    · intro y0 y1 y2 y3
      unfold signalmanlaw08_BucketForgets.l0
      repeat' first
      | (with_reducible exact ih0 _ _ _ _)
      | (with_reducible exact ih1 _ _ _ _)
      | (with_reducible exact bucket_Leak_Unit.mono _ _ _ _)
      | (with_reducible exact signalmanlaw08_awake.mono _)
      | (with_reducible exact LeO.refl _)
      | (with_reducible exact LeO.none _)
      | (with_reducible refine LeO.ite ?_ ?_)
      | (with_reducible refine LeO.bind ?_ (fun _ => ?_))
      | exact ih0 _ _ _ _
      | exact ih1 _ _ _ _
      | exact bucket_Leak_Unit.mono _ _ _ _
      | exact signalmanlaw08_awake.mono _
      | exact LeO.none _
      | refine LeO.ite ?_ ?_
      | refine LeO.bind ?_ (fun _ => ?_)
    · intro y0 y1 y2 y3
      unfold signalmanlaw08_BucketForgets.l1
      repeat' first
      | (with_reducible exact ih0 _ _ _ _)
      | (with_reducible exact ih1 _ _ _ _)
      | (with_reducible exact bucket_Leak_Unit.mono _ _ _ _)
      | (with_reducible exact signalmanlaw08_awake.mono _)
      | (with_reducible exact LeO.refl _)
      | (with_reducible exact LeO.none _)
      | (with_reducible refine LeO.ite ?_ ?_)
      | (with_reducible refine LeO.bind ?_ (fun _ => ?_))
      | exact ih0 _ _ _ _
      | exact ih1 _ _ _ _
      | exact bucket_Leak_Unit.mono _ _ _ _
      | exact signalmanlaw08_awake.mono _
      | exact LeO.none _
      | refine LeO.ite ?_ ?_
      | refine LeO.bind ?_ (fun _ => ?_)
theorem signalmanlaw08_BucketForgets.mono : ∀ a0 a1 k, LeO (signalmanlaw08_BucketForgets.f k a0 a1) (signalmanlaw08_BucketForgets.f (k + 1) a0 a1) := by
  intro a0 a1 k
  obtain ⟨ih0, ih1⟩ := signalmanlaw08_BucketForgets.mono_l k
  unfold signalmanlaw08_BucketForgets.f
  repeat' first
      | (with_reducible exact ih0 _ _ _ _)
      | (with_reducible exact ih1 _ _ _ _)
      | (with_reducible exact bucket_Leak_Unit.mono _ _ _ _)
      | (with_reducible exact signalmanlaw08_awake.mono _)
      | (with_reducible exact LeO.refl _)
      | (with_reducible exact LeO.none _)
      | (with_reducible refine LeO.ite ?_ ?_)
      | (with_reducible refine LeO.bind ?_ (fun _ => ?_))
      | exact ih0 _ _ _ _
      | exact ih1 _ _ _ _
      | exact bucket_Leak_Unit.mono _ _ _ _
      | exact signalmanlaw08_awake.mono _
      | exact LeO.none _
      | refine LeO.ite ?_ ?_
      | refine LeO.bind ?_ (fun _ => ?_)
set_option maxHeartbeats 8000000 in
set_option maxRecDepth 100000 in
theorem signalmanlaw08_BucketForgets.calls (k : Nat) (a0 : Int) (a1 : Int) (r : Bool) (w : World) (h : signalmanlaw08_BucketForgets.f k a0 a1 = some r) :
    Calls Try.prog 10 #[.int .u8 a0, .int .u16 a1] w fun e w' => e = .returned (.bool r) ∧ Below w.heap.size w w' := by
  have hu36 := Try.underlying36
  have HB := Aside0.mk (Below.refl w.heap.size w)
  have H : ((signalmanlaw08_awake.f k).bind fun t113 => (if t113 = true then (signalmanlaw08_BucketForgets.l0 k (Int.tmod (wrap64 (a0)) 60) 0 0 0) else (some false))) = some r := h
  clear h
  replace H := Option.bind_eq_some_iff.mp H
  obtain ⟨t113, A30, H⟩ := H
  replace H : (if t113 = true then (signalmanlaw08_BucketForgets.l0 k (Int.tmod (wrap64 (a0)) 60) 0 0 0) else (some false)) = some r := H
  have A3 := Aside0.mk A30
  clear A30
  by_cases c4 : t113 = true
  · subst c4
    have H1 : (signalmanlaw08_BucketForgets.l0 k (Int.tmod (wrap64 (a0)) 60) 0 0 0) = some r := by rw [if_pos rfl] at H; exact H
    clear H
    have H := H1
    clear H1
    have H' := Aside0.mk H
    clear H
    go_enter Try.func10, Try.ntmps10
    go_wp2_with (first | ((with_reducible refine gate_callee (f := 23) rfl ?_); refine goesL_ (some 9) rfl rfl Try.func23 (by kernel_rfl) rfl #[] rfl (by (try simp only [List.map_toArray, List.map_cons, List.map_nil]); first | done | rfl | (simp only [List.length_drop, List.length_take]; rfl)) ?_; (with_reducible refine (signalmanlaw08_awake.calls k  true _ A3.out).mono ?_); rintro e w5 ⟨rfl, hb⟩; refine ⟨_, rfl, ?_⟩; have n0_ := Aside0.mk (below_step (by repeat (first | (with_reducible first | exact HB.out | apply below_alloc | apply pw_below_drewN | apply below_drew1) | exact HB.out)) hb); clear HB; have HB := n0_; clear n0_; (try clear hb); (try clear hb2); (try clear hk); (try clear hi)) | ((with_reducible refine gate_dst (N := 5) rfl ?_); refine box_event ?hg (N := 5) ?hd (cs := #[.int .i64 0, .int .i64 0]) (t := 36) ?hr ?_; (case hd => rfl); (case hg => rfl); (case hr => first | (go_simp; done) | (go_simp; rfl)); intro gb114 hg w6 hbox hb; have n0_ := Aside0.mk (below_step (by repeat (first | (with_reducible first | exact HB.out | apply below_alloc | apply pw_below_drewN | apply below_drew1) | exact HB.out)) hb); have n1_ := Aside0.mk (hbox); have n2_ := Aside0.mk ((by rw [hg]; exact (below_size (by repeat (first | (with_reducible first | exact HB.out | apply below_alloc | apply pw_below_drewN | apply below_drew1) | exact HB.out))) : w.heap.size ≤ gb114)); have n3_ := Aside0.mk ((by rw [hg]; exact (below_size (by repeat (first | (with_reducible first | exact HB.out | apply below_alloc | apply pw_below_drewN | apply below_drew1) | exact HB.out))) : w.heap.size ≤ gb114)); clear HB; have HB := n0_; have BK114 := n1_; have GW114 := n2_; have GE114 := n3_; clear n0_ n1_ n2_ n3_; clear hb hbox hg; have hcz7_0 : w6.cell? ⟨gb114, 0, none⟩ = some (.int .i64 0) := (blk_cell BK114.out 0).trans rfl; have hcz7_1 : w6.cell? ⟨gb114, 1, none⟩ = some (.int .i64 0) := (blk_cell BK114.out 1).trans rfl; have hfz7_0 := blk_frozen BK114.out 0; have hfz7_1 := blk_frozen BK114.out 1))
    go_loopg [7] k (fun kq v7 w' => ∃ (x7_1 : Int) (x115000_1 : Int) (x115001_1 : Int), v7 = .int .i64 x7_1 ∧ Aside0 (signalmanlaw08_BucketForgets.l0 kq (Int.tmod (wrap64 (a0)) 60) x7_1 x115000_1 x115001_1 = some r) ∧ Aside0 (kq ≤ k) ∧ Aside0 (w'.heap[gb114]? = some (.cells #[.int .i64 x115000_1, .int .i64 x115001_1] 36 (0, 0))) ∧ Aside0 (Below w.heap.size w w'))
    case atStart => exact ⟨(0), (0), (0), (by first | rfl | (simp; done) | (simp [*]; done)), H', ⟨Nat.le_refl _⟩, ⟨by (with_reducible repeat (first | refine blk_drewN ?_ _ | refine blk_drew ?_ | refine blk_alloc ?_ _)); refine blk_put (cs := #[.int .i64 0, .int .i64 0]) ?_ 1 _ rfl; (with_reducible repeat (first | refine blk_drewN ?_ _ | refine blk_drew ?_ | refine blk_alloc ?_ _)); refine blk_put (cs := #[.int .i64 0, .int .i64 0]) ?_ 0 _ rfl; (with_reducible repeat (first | refine blk_drewN ?_ _ | refine blk_drew ?_ | refine blk_alloc ?_ _)); exact BK114.out⟩, ⟨by repeat (first | (with_reducible first | exact HB.out | apply below_alloc | apply pw_below_drewN | apply below_drew1 | refine below_set ?_ GE114.out) | exact HB.out)⟩⟩
    case round =>
      clear H'
      try clear c1
      try clear c2
      try clear p2
      try clear c4
      try clear p6
      try clear hcz7_0
      try clear hcz7_1
      try clear hfz7_0
      try clear hfz7_1
      obtain ⟨x7_1, x115000_1, x115001_1, rfl, HA, HK1, BK114, HB⟩ := hrel
      cases gk with
      | zero => exact absurd HA.out (by simp [signalmanlaw08_BucketForgets.l0])
      | succ k1 =>
        have H := HA.out
        clear HA
        simp only [signalmanlaw08_BucketForgets.l0] at H
        by_cases c8 : x7_1 < (Int.tmod (wrap64 (a0)) 60)
        · rw [if_pos c8] at H
          have c8b0 : decide (x7_1 < (Int.tmod (wrap64 (a0)) 60)) = true := decide_eq_true c8
          clear c8
          replace H := Option.bind_eq_some_iff.mp H
          obtain ⟨⟨t115, t116, t117⟩, A90, H⟩ := H
          replace H : (signalmanlaw08_BucketForgets.l0 k1 (Int.tmod (wrap64 (a0)) 60) (wrap64 (x7_1 + 1)) t115 t116) = some r := H
          have A9 := Aside0.mk A90
          clear A90
          have H' := Aside0.mk H
          clear H
          have hcz10_0 : wr.cell? ⟨gb114, 0, none⟩ = some (.int .i64 x115000_1) := (blk_cell BK114.out 0).trans rfl
          have hcz10_1 : wr.cell? ⟨gb114, 1, none⟩ = some (.int .i64 x115001_1) := (blk_cell BK114.out 1).trans rfl
          have hfz10_0 := blk_frozen BK114.out 0
          have hfz10_1 := blk_frozen BK114.out 1
          go_wp2_with (first | ((with_reducible refine gate_callee (f := 25) rfl ?_); refine goesL_ (some 22) rfl rfl Try.func25 (by kernel_rfl) rfl #[.agg #[.int .i64 x115000_1, .int .i64 x115001_1], .bool true] rfl (by (try simp only [List.map_toArray, List.map_cons, List.map_nil]); first | done | rfl | (simp only [List.length_drop, List.length_take]; rfl)) ?_; (with_reducible refine (bucket_Leak_Unit.calls k1 x115000_1 x115001_1 true t115 t116 t117 _ A9.out).mono ?_); rintro e w11 ⟨rfl, hb⟩; refine ⟨_, rfl, ?_⟩; have n0_ := Aside0.mk (blk_below (g := gb114) (o := .cells #[.int .i64 x115000_1, .int .i64 x115001_1] 36 (0, 0)) (by (with_reducible repeat (first | refine blk_drewN ?_ _ | refine blk_drew ?_ | refine blk_alloc ?_ _)); exact BK114.out) hb); have n1_ := Aside0.mk (below_step (by repeat (first | (with_reducible first | exact HB.out | apply below_alloc | apply pw_below_drewN | apply below_drew1 | refine below_set ?_ GE114.out) | exact HB.out)) hb); clear BK114; clear HB; have BK114 := n0_; have HB := n1_; clear n0_ n1_; (try clear hb); (try clear hb2); (try clear hk); (try clear hi); have hcz12_0 : w11.cell? ⟨gb114, 0, none⟩ = some (.int .i64 x115000_1) := (blk_cell BK114.out 0).trans rfl; have hcz12_1 : w11.cell? ⟨gb114, 1, none⟩ = some (.int .i64 x115001_1) := (blk_cell BK114.out 1).trans rfl; have hfz12_0 := blk_frozen BK114.out 0; have hfz12_1 := blk_frozen BK114.out 1))
          go_roundg k1
          case measure => have := HK1.out; omega
          case rel => exact ⟨(wrap64 (x7_1 + 1)), (t115), (t116), (by first | rfl | (simp; done) | (simp [*]; done)), H', ⟨by have := HK1.out; omega⟩, ⟨by (with_reducible repeat (first | refine blk_drewN ?_ _ | refine blk_drew ?_ | refine blk_alloc ?_ _)); refine blk_put (cs := #[.int .i64 t115, .int .i64 x115001_1]) ?_ 1 _ rfl; (with_reducible repeat (first | refine blk_drewN ?_ _ | refine blk_drew ?_ | refine blk_alloc ?_ _)); refine blk_put (cs := #[.int .i64 x115000_1, .int .i64 x115001_1]) ?_ 0 _ rfl; (with_reducible repeat (first | refine blk_drewN ?_ _ | refine blk_drew ?_ | refine blk_alloc ?_ _)); exact BK114.out⟩, ⟨by repeat (first | (with_reducible first | exact HB.out | apply below_alloc | apply pw_below_drewN | apply below_drew1 | refine below_set ?_ GE114.out) | exact HB.out)⟩⟩
        · rw [if_neg c8] at H
          have c8b0 : decide (x7_1 < (Int.tmod (wrap64 (a0)) 60)) = false := decide_eq_false c8
          clear c8
          by_cases c13 : x115000_1 = (Int.tmod (wrap64 (a0)) 60)
          · rw [if_pos c13] at H
            have c13b0 : (x115000_1 == (Int.tmod (wrap64 (a0)) 60)) = true := beq_iff_eq.mpr c13
            have c13b1 : (x115000_1 != (Int.tmod (wrap64 (a0)) 60)) = false := bne_eq_false_iff_eq.mpr c13
            clear c13
            have H' := Aside0.mk H
            clear H
            have hcz14_0 : wr.cell? ⟨gb114, 0, none⟩ = some (.int .i64 x115000_1) := (blk_cell BK114.out 0).trans rfl
            have hcz14_1 : wr.cell? ⟨gb114, 1, none⟩ = some (.int .i64 x115001_1) := (blk_cell BK114.out 1).trans rfl
            have hfz14_0 := blk_frozen BK114.out 0
            have hfz14_1 := blk_frozen BK114.out 1
            go_wp2
            go_loopg [8] k1 (fun kq v8 w' => ∃ (x8_2 : Int) (x115000_2 : Int) (x115001_2 : Int), v8 = .int .i64 x8_2 ∧ Aside0 (signalmanlaw08_BucketForgets.l1 kq (Int.tmod (wrap64 (a0)) 60) x8_2 x115000_2 x115001_2 = some r) ∧ Aside0 (kq ≤ k1) ∧ Aside0 (w'.heap[gb114]? = some (.cells #[.int .i64 x115000_2, .int .i64 x115001_2] 36 (0, 0))) ∧ Aside0 (Below w.heap.size w w'))
            case atStart => exact ⟨(0), (x115000_1), (x115001_1), (by first | rfl | (simp; done) | (simp [*]; done)), H', ⟨Nat.le_refl _⟩, ⟨by (with_reducible repeat (first | refine blk_drewN ?_ _ | refine blk_drew ?_ | refine blk_alloc ?_ _)); exact BK114.out⟩, ⟨by repeat (first | (with_reducible first | exact HB.out | apply below_alloc | apply pw_below_drewN | apply below_drew1 | refine below_set ?_ GE114.out) | exact HB.out)⟩⟩
            case round =>
              clear H'
              try clear c1
              try clear c2
              try clear p2
              try clear c4
              try clear p6
              try clear c8
              try clear c8b0
              try clear c10
              try clear c13
              try clear c13b0
              try clear c13b1
              try clear hcz10_0
              try clear hcz10_1
              try clear hcz12_0
              try clear hcz12_1
              try clear hcz14_0
              try clear hcz14_1
              try clear hcz7_0
              try clear hcz7_1
              try clear hfz10_0
              try clear hfz10_1
              try clear hfz12_0
              try clear hfz12_1
              try clear hfz14_0
              try clear hfz14_1
              try clear hfz7_0
              try clear hfz7_1
              try clear p2
              try clear p6
              obtain ⟨x8_2, x115000_2, x115001_2, rfl, HA, HK2, BK114, HB⟩ := hrel
              cases gk with
              | zero => exact absurd HA.out (by simp [signalmanlaw08_BucketForgets.l1])
              | succ k2 =>
                have H := HA.out
                clear HA
                simp only [signalmanlaw08_BucketForgets.l1] at H
                by_cases c15 : x8_2 < (wrap64 (256 * (Int.tmod (wrap64 (a0)) 60)))
                · rw [if_pos c15] at H
                  have c15b0 : decide (x8_2 < (wrap64 (256 * (Int.tmod (wrap64 (a0)) 60)))) = true := decide_eq_true c15
                  clear c15
                  replace H := Option.bind_eq_some_iff.mp H
                  obtain ⟨⟨t118, t119, t120⟩, A160, H⟩ := H
                  replace H : (signalmanlaw08_BucketForgets.l1 k2 (Int.tmod (wrap64 (a0)) 60) (wrap64 (x8_2 + 1)) t118 t119) = some r := H
                  have A16 := Aside0.mk A160
                  clear A160
                  have H' := Aside0.mk H
                  clear H
                  have hcz17_0 : wr.cell? ⟨gb114, 0, none⟩ = some (.int .i64 x115000_2) := (blk_cell BK114.out 0).trans rfl
                  have hcz17_1 : wr.cell? ⟨gb114, 1, none⟩ = some (.int .i64 x115001_2) := (blk_cell BK114.out 1).trans rfl
                  have hfz17_0 := blk_frozen BK114.out 0
                  have hfz17_1 := blk_frozen BK114.out 1
                  go_wp2_with (first | ((with_reducible refine gate_callee (f := 25) rfl ?_); refine goesL_ (some 37) rfl rfl Try.func25 (by kernel_rfl) rfl #[.agg #[.int .i64 x115000_2, .int .i64 x115001_2], .bool false] rfl (by (try simp only [List.map_toArray, List.map_cons, List.map_nil]); first | done | rfl | (simp only [List.length_drop, List.length_take]; rfl)) ?_; (with_reducible refine (bucket_Leak_Unit.calls k2 x115000_2 x115001_2 false t118 t119 t120 _ A16.out).mono ?_); rintro e w18 ⟨rfl, hb⟩; refine ⟨_, rfl, ?_⟩; have n0_ := Aside0.mk (blk_below (g := gb114) (o := .cells #[.int .i64 x115000_2, .int .i64 x115001_2] 36 (0, 0)) (by (with_reducible repeat (first | refine blk_drewN ?_ _ | refine blk_drew ?_ | refine blk_alloc ?_ _)); exact BK114.out) hb); have n1_ := Aside0.mk (below_step (by repeat (first | (with_reducible first | exact HB.out | apply below_alloc | apply pw_below_drewN | apply below_drew1 | refine below_set ?_ GE114.out) | exact HB.out)) hb); clear BK114; clear HB; have BK114 := n0_; have HB := n1_; clear n0_ n1_; (try clear hb); (try clear hb2); (try clear hk); (try clear hi); have hcz19_0 : w18.cell? ⟨gb114, 0, none⟩ = some (.int .i64 x115000_2) := (blk_cell BK114.out 0).trans rfl; have hcz19_1 : w18.cell? ⟨gb114, 1, none⟩ = some (.int .i64 x115001_2) := (blk_cell BK114.out 1).trans rfl; have hfz19_0 := blk_frozen BK114.out 0; have hfz19_1 := blk_frozen BK114.out 1))
                  go_roundg k2
                  case measure => have := HK1.out; have := HK2.out; omega
                  case rel => exact ⟨(wrap64 (x8_2 + 1)), (t118), (t119), (by first | rfl | (simp; done) | (simp [*]; done)), H', ⟨by have := HK1.out; have := HK2.out; omega⟩, ⟨by (with_reducible repeat (first | refine blk_drewN ?_ _ | refine blk_drew ?_ | refine blk_alloc ?_ _)); refine blk_put (cs := #[.int .i64 t118, .int .i64 x115001_2]) ?_ 1 _ rfl; (with_reducible repeat (first | refine blk_drewN ?_ _ | refine blk_drew ?_ | refine blk_alloc ?_ _)); refine blk_put (cs := #[.int .i64 x115000_2, .int .i64 x115001_2]) ?_ 0 _ rfl; (with_reducible repeat (first | refine blk_drewN ?_ _ | refine blk_drew ?_ | refine blk_alloc ?_ _)); exact BK114.out⟩, ⟨by repeat (first | (with_reducible first | exact HB.out | apply below_alloc | apply pw_below_drewN | apply below_drew1 | refine below_set ?_ GE114.out) | exact HB.out)⟩⟩
                · rw [if_neg c15] at H
                  have c15b0 : decide (x8_2 < (wrap64 (256 * (Int.tmod (wrap64 (a0)) 60)))) = false := decide_eq_false c15
                  clear c15
                  by_cases c20 : x115000_2 ≤ 1
                  · rw [if_pos c20] at H
                    have c20b0 : decide (x115000_2 ≤ 1) = true := decide_eq_true c20
                    clear c20
                    obtain rfl := Option.some.inj H
                    have hcz21_0 : wr.cell? ⟨gb114, 0, none⟩ = some (.int .i64 x115000_2) := (blk_cell BK114.out 0).trans rfl
                    have hcz21_1 : wr.cell? ⟨gb114, 1, none⟩ = some (.int .i64 x115001_2) := (blk_cell BK114.out 1).trans rfl
                    have hfz21_0 := blk_frozen BK114.out 0
                    have hfz21_1 := blk_frozen BK114.out 1
                    go_wp2
                    go_ret
                    exact ⟨by first | rfl | (simp [errW_none, errW_some] <;> rfl) | (simp [*, errW_none, errW_some] <;> rfl), by repeat (first | (with_reducible first | exact HB.out | apply below_alloc | apply pw_below_drewN | apply below_drew1 | refine below_set ?_ GE114.out) | exact HB.out)⟩
                  · rw [if_neg c20] at H
                    have c20b0 : decide (x115000_2 ≤ 1) = false := decide_eq_false c20
                    clear c20
                    obtain rfl := Option.some.inj H
                    have hcz22_0 : wr.cell? ⟨gb114, 0, none⟩ = some (.int .i64 x115000_2) := (blk_cell BK114.out 0).trans rfl
                    have hcz22_1 : wr.cell? ⟨gb114, 1, none⟩ = some (.int .i64 x115001_2) := (blk_cell BK114.out 1).trans rfl
                    have hfz22_0 := blk_frozen BK114.out 0
                    have hfz22_1 := blk_frozen BK114.out 1
                    go_wp2
                    go_ret
                    exact ⟨by first | rfl | (simp [errW_none, errW_some] <;> rfl) | (simp [*, errW_none, errW_some] <;> rfl), by repeat (first | (with_reducible first | exact HB.out | apply below_alloc | apply pw_below_drewN | apply below_drew1 | refine below_set ?_ GE114.out) | exact HB.out)⟩
          · rw [if_neg c13] at H
            have c13b0 : (x115000_1 == (Int.tmod (wrap64 (a0)) 60)) = false := beq_eq_false_iff_ne.mpr c13
            have c13b1 : (x115000_1 != (Int.tmod (wrap64 (a0)) 60)) = true := bne_iff_ne.mpr c13
            obtain rfl := Option.some.inj H
            have hcz23_0 : wr.cell? ⟨gb114, 0, none⟩ = some (.int .i64 x115000_1) := (blk_cell BK114.out 0).trans rfl
            have hcz23_1 : wr.cell? ⟨gb114, 1, none⟩ = some (.int .i64 x115001_1) := (blk_cell BK114.out 1).trans rfl
            have hfz23_0 := blk_frozen BK114.out 0
            have hfz23_1 := blk_frozen BK114.out 1
            go_wp2
            go_ret
            exact ⟨by first | rfl | (simp [errW_none, errW_some] <;> rfl) | (simp [*, errW_none, errW_some] <;> rfl), by repeat (first | (with_reducible first | exact HB.out | apply below_alloc | apply pw_below_drewN | apply below_drew1 | refine below_set ?_ GE114.out) | exact HB.out)⟩
  · replace c4 := Bool.eq_false_iff.mpr c4
    subst c4
    have H1 : (some false) = some r := by rw [if_neg (show ¬ (false = true) by decide)] at H; exact H
    clear H
    have H := H1
    clear H1
    obtain rfl := Option.some.inj H
    go_enter Try.func10, Try.ntmps10
    go_wp2_with (first | ((with_reducible refine gate_callee (f := 23) rfl ?_); refine goesL_ (some 9) rfl rfl Try.func23 (by kernel_rfl) rfl #[] rfl (by (try simp only [List.map_toArray, List.map_cons, List.map_nil]); first | done | rfl | (simp only [List.length_drop, List.length_take]; rfl)) ?_; (with_reducible refine (signalmanlaw08_awake.calls k  false _ A3.out).mono ?_); rintro e w24 ⟨rfl, hb⟩; refine ⟨_, rfl, ?_⟩; have n0_ := Aside0.mk (below_step (by repeat (first | (with_reducible first | exact HB.out | apply below_alloc | apply pw_below_drewN | apply below_drew1) | exact HB.out)) hb); clear HB; have HB := n0_; clear n0_; (try clear hb); (try clear hb2); (try clear hk); (try clear hi)))
    go_ret
    exact ⟨by first | rfl | (simp [errW_none, errW_some] <;> rfl) | (simp [*, errW_none, errW_some] <;> rfl), by repeat (first | (with_reducible first | exact HB.out | apply below_alloc | apply pw_below_drewN | apply below_drew1) | exact HB.out)⟩

/-- THE ONE PURE STATEMENT of signalmanlaw08_BucketForgets: yours. -/
def signalmanlaw08_BucketForgets.Pure : Prop := ∀ (a0 : Int) (a1 : Int), (Lit.int .u8 a0).wf = true → (Lit.int .u16 a1).wf = true → ∃ k, signalmanlaw08_BucketForgets.f k a0 a1 = some true
theorem signalmanlaw08_BucketForgets.walk (P : signalmanlaw08_BucketForgets.Pure) (a0 : Int) (a1 : Int) (w : World) (w0 : (Lit.int .u8 a0).wf = true) (w1 : (Lit.int .u16 a1).wf = true) :
    Calls Try.prog 10 #[.int .u8 a0, .int .u16 a1] w fun e w' => e = .returned (.bool true) ∧ Below w.heap.size w w' := by
  obtain ⟨k, h⟩ := P a0 a1 w0 w1
  refine (signalmanlaw08_BucketForgets.calls k a0 a1 true w h).mono ?_
  rintro e w' ⟨rfl, hd⟩
  exact ⟨rfl, hd⟩

end Go.Proofs.Ytailojidffehnaa.PBucketForgets
