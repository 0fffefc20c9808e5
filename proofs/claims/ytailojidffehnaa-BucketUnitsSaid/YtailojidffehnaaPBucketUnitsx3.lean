-- PRINTED BY print.sh 35421559b90ae4d0a3588c463048766b98c2df88dd9212a6774a882060cdf62d: not written by this session
import Derived.Test.YtailojidffehnaaPBucketUnitsx0
import Derived.Test.YtailojidffehnaaPBucketUnitsx1
import Derived.Test.YtailojidffehnaaPBucketUnitsx2
namespace Go.Proofs.Ytailojidffehnaa.PBucketUnits
open Go.RowKit Go.Proofs.YtailojidffehnaaW.PrintWords Go.Proofs.YtailojidffehnaaW.PrintLast Go.Proofs.YtailojidffehnaaW.PrintMore
attribute [local go_sem] max2_int min2_int max_two min_two max_three min_three max_four min_four   -- for this text's walks alone
set_option linter.unusedVariables false
set_option linter.unusedSimpArgs false

/-! ### signalmanlaw08_BucketUnits: function 7 -/
mutual
def signalmanlaw08_BucketUnits.l0 : Nat → List Bool → Int → Int → Int → Int → Option (Bool)
  | 0, _, _, _, _, _ => none
  | k + 1, x3, x5, x6, x123000, x123001 => if x6 < (x3.length : Int) then (signalmanlaw08_BucketUnits.j1 k x3 x5 x6 (decide (x5 < 0)) x123000 x123001) else (signalmanlaw08_BucketUnits.j1 k x3 x5 x6 false x123000 x123001)
def signalmanlaw08_BucketUnits.j1 : Nat → List Bool → Int → Int → Bool → Int → Int → Option (Bool)
  | 0, _, _, _, _, _, _ => none
  | k + 1, x3, x5, x6, x21, x123000, x123001 => if x21 = true then (if 0 ≤ x6 then (if x6 < (x3.length : Int) then ((bucket_Leak_Unit.f k x123000 x123001 (rdOf false x3 x6)).bind fun bt127 => (if (bt127.2.2 != (decide (bt127.1 ≥ 64))) = true then (signalmanlaw08_BucketUnits.j2 k x3 x5 x6 bt127.2.2 true bt127.1 bt127.2.1) else (if bt127.1 < 0 then (signalmanlaw08_BucketUnits.j2 k x3 x5 x6 bt127.2.2 true bt127.1 bt127.2.1) else (if bt127.2.1 < 0 then (signalmanlaw08_BucketUnits.j2 k x3 x5 x6 bt127.2.2 true bt127.1 bt127.2.1) else (signalmanlaw08_BucketUnits.j2 k x3 x5 x6 bt127.2.2 (decide (bt127.2.1 ≥ 256)) bt127.1 bt127.2.1))))) else (none)) else (none)) else ((bucket_Units.f k x3).bind fun t123 => ((signalmanref06_Fails.f k x3).bind fun t124 => (if t123 = t124 then ((signalmanref06_Fails.f k x3).bind fun t125 => (some (x5 == t125))) else (some false))))
def signalmanlaw08_BucketUnits.j2 : Nat → List Bool → Int → Int → Bool → Bool → Int → Int → Option (Bool)
  | 0, _, _, _, _, _, _, _ => none
  | k + 1, x3, x5, x6, x8, x53, x123000, x123001 => if x53 = true then (some false) else (if x8 = true then (signalmanlaw08_BucketUnits.l0 k x3 x6 (wrap64 (x6 + 1)) x123000 x123001) else (signalmanlaw08_BucketUnits.l0 k x3 x5 (wrap64 (x6 + 1)) x123000 x123001))
end
def signalmanlaw08_BucketUnits.f (k : Nat) (l0 : List Int) : Option (Bool) := (signalmanlaw08_awake.f k).bind fun t118 => (if t118 = true then ((signalmanlaw08_units.f k l0).bind fun t119 => (signalmanlaw08_BucketUnits.l0 k t119 (-1) 0 0 0)) else (some false))
theorem signalmanlaw08_BucketUnits.mono_l : ∀ k, (∀ y0 y1 y2 y3 y4, LeO (signalmanlaw08_BucketUnits.l0 k y0 y1 y2 y3 y4) (signalmanlaw08_BucketUnits.l0 (k + 1) y0 y1 y2 y3 y4)) ∧ (∀ y0 y1 y2 y3 y4 y5, LeO (signalmanlaw08_BucketUnits.j1 k y0 y1 y2 y3 y4 y5) (signalmanlaw08_BucketUnits.j1 (k + 1) y0 y1 y2 y3 y4 y5)) ∧ (∀ y0 y1 y2 y3 y4 y5 y6, LeO (signalmanlaw08_BucketUnits.j2 k y0 y1 y2 y3 y4 y5 y6) (signalmanlaw08_BucketUnits.j2 (k + 1) y0 y1 y2 y3 y4 y5 y6))
  | 0 => ⟨fun _ _ _ _ _ r h => by simp [signalmanlaw08_BucketUnits.l0] at h, fun _ _ _ _ _ _ r h => by simp [signalmanlaw08_BucketUnits.j1] at h, fun _ _ _ _ _ _ _ r h => by simp [signalmanlaw08_BucketUnits.j2] at h⟩
  | k + 1 => by
    obtain ⟨ih0, ih1, ih2⟩ := signalmanlaw08_BucketUnits.mono_l k
    refine ⟨?_, ?_, ?_⟩
    · intro y0 y1 y2 y3 y4
      unfold signalmanlaw08_BucketUnits.l0
      repeat' first
      | (with_reducible exact ih0 _ _ _ _ _)
      | (with_reducible exact ih1 _ _ _ _ _ _)
      | (with_reducible exact ih2 _ _ _ _ _ _ _)
      | (with_reducible exact bucket_Leak_Unit.mono _ _ _ _)
      | (with_reducible exact bucket_Units.mono _ _)
      | (with_reducible exact signalmanlaw08_awake.mono _)
      | (with_reducible exact signalmanlaw08_units.mono _ _)
      | (with_reducible exact signalmanref06_Fails.mono _ _)
      | (with_reducible exact LeO.refl _)
      | (with_reducible exact LeO.none _)
      | (with_reducible refine LeO.ite ?_ ?_)
      | (with_reducible refine LeO.bind ?_ (fun _ => ?_))
      | exact ih0 _ _ _ _ _
      | exact ih1 _ _ _ _ _ _
      | exact ih2 _ _ _ _ _ _ _
      | exact bucket_Leak_Unit.mono _ _ _ _
      | exact bucket_Units.mono _ _
      | exact signalmanlaw08_awake.mono _
      | exact signalmanlaw08_units.mono _ _
      | exact signalmanref06_Fails.mono _ _
      | exact LeO.none _
      | refine LeO.ite ?_ ?_
      | refine LeO.bind ?_ (fun _ => ?_)
    · intro y0 y1 y2 y3 y4 y5
      unfold signalmanlaw08_BucketUnits.j1
      repeat' first
      | (with_reducible exact ih0 _ _ _ _ _)
      | (with_reducible exact ih1 _ _ _ _ _ _)
      | (with_reducible exact ih2 _ _ _ _ _ _ _)
      | (with_reducible exact bucket_Leak_Unit.mono _ _ _ _)
      | (with_reducible exact bucket_Units.mono _ _)
      | (with_reducible exact signalmanlaw08_awake.mono _)
      | (with_reducible exact signalmanlaw08_units.mono _ _)
      | (with_reducible exact signalmanref06_Fails.mono _ _)
      | (with_reducible exact LeO.refl _)
      | (with_reducible exact LeO.none _)
      | (with_reducible refine LeO.ite ?_ ?_)
      | (with_reducible refine LeO.bind ?_ (fun _ => ?_))
      | exact ih0 _ _ _ _ _
      | exact ih1 _ _ _ _ _ _
      | exact ih2 _ _ _ _ _ _ _
      | exact bucket_Leak_Unit.mono _ _ _ _
      | exact bucket_Units.mono _ _
      | exact signalmanlaw08_awake.mono _
      | exact signalmanlaw08_units.mono _ _
      | exact signalmanref06_Fails.mono _ _
      | exact LeO.none _
      | refine LeO.ite ?_ ?_
      | refine LeO.bind ?_ (fun _ => ?_)
    · intro y0 y1 y2 y3 y4 y5 y6
      unfold signalmanlaw08_BucketUnits.j2
      repeat' first
      | (with_reducible exact ih0 _ _ _ _ _)
      | (with_reducible exact ih1 _ _ _ _ _ _)
      | (with_reducible exact ih2 _ _ _ _ _ _ _)
      | (with_reducible exact bucket_Leak_Unit.mono _ _ _ _)
      | (with_reducible exact bucket_Units.mono _ _)
      | (with_reducible exact signalmanlaw08_awake.mono _)
      | (with_reducible exact signalmanlaw08_units.mono _ _)
      | (with_reducible exact signalmanref06_Fails.mono _ _)
      | (with_reducible exact LeO.refl _)
      | (with_reducible exact LeO.none _)
      | (with_reducible refine LeO.ite ?_ ?_)
      | (with_reducible refine LeO.bind ?_ (fun _ => ?_))
      | exact ih0 _ _ _ _ _
      | exact ih1 _ _ _ _ _ _
      | exact ih2 _ _ _ _ _ _ _
      | exact bucket_Leak_Unit.mono _ _ _ _
      | exact bucket_Units.mono _ _
      | exact signalmanlaw08_awake.mono _
      | exact signalmanlaw08_units.mono _ _
      | exact signalmanref06_Fails.mono _ _
      | exact LeO.none _
      | refine LeO.ite ?_ ?_
      | refine LeO.bind ?_ (fun _ => ?_)
theorem signalmanlaw08_BucketUnits.mono : ∀ a0 k, LeO (signalmanlaw08_BucketUnits.f k a0) (signalmanlaw08_BucketUnits.f (k + 1) a0) := by
  intro a0 k
  obtain ⟨ih0, ih1, ih2⟩ := signalmanlaw08_BucketUnits.mono_l k
  unfold signalmanlaw08_BucketUnits.f
  repeat' first
      | (with_reducible exact ih0 _ _ _ _ _)
      | (with_reducible exact ih1 _ _ _ _ _ _)
      | (with_reducible exact ih2 _ _ _ _ _ _ _)
      | (with_reducible exact bucket_Leak_Unit.mono _ _ _ _)
      | (with_reducible exact bucket_Units.mono _ _)
      | (with_reducible exact signalmanlaw08_awake.mono _)
      | (with_reducible exact signalmanlaw08_units.mono _ _)
      | (with_reducible exact signalmanref06_Fails.mono _ _)
      | (with_reducible exact LeO.refl _)
      | (with_reducible exact LeO.none _)
      | (with_reducible refine LeO.ite ?_ ?_)
      | (with_reducible refine LeO.bind ?_ (fun _ => ?_))
      | exact ih0 _ _ _ _ _
      | exact ih1 _ _ _ _ _ _
      | exact ih2 _ _ _ _ _ _ _
      | exact bucket_Leak_Unit.mono _ _ _ _
      | exact bucket_Units.mono _ _
      | exact signalmanlaw08_awake.mono _
      | exact signalmanlaw08_units.mono _ _
      | exact signalmanref06_Fails.mono _ _
      | exact LeO.none _
      | refine LeO.ite ?_ ?_
      | refine LeO.bind ?_ (fun _ => ?_)
def signalmanlaw08_BucketUnits.T9 : Bool × List (List Nat × List Nat) := (true, [([], []), ([], []), ([], []), ([1, 2], [1, 2]), ([3], [3]), ([0, 4], [0, 4]), ([5], [5]), ([6], [6]), ([6], [6]), ([], []), ([9, 7, 5, 0, 1, 2, 3, 4, 5, 6, 7, 9], [7, 9]), ([8, 10, 0, 1, 2, 3, 4, 5, 6, 7, 8, 9, 10], [8])])
def signalmanlaw08_BucketUnits.B9 : List Nat := [0, 0, 0, 6, 14, 31, 63, 127, 127, 0, 767, 2047]
theorem signalmanlaw08_BucketUnits.tab9 : rtab .any (opsOf Try.f7 9) = signalmanlaw08_BucketUnits.T9 := by kernel_rfl
theorem signalmanlaw08_BucketUnits.bits9 : waitsOk signalmanlaw08_BucketUnits.T9.2 signalmanlaw08_BucketUnits.B9 = true := by kernel_rfl
set_option maxHeartbeats 8000000 in
set_option maxRecDepth 100000 in
theorem signalmanlaw08_BucketUnits.calls (k : Nat) (A0 : Option Addr) (c0 : Nat) (l0 : List Int) (r : Bool) (w : World) (hr0 : Kd.C (Kd.int .u16) w A0 l0.length l0) (hc0 : l0.length ≤ c0) (h : signalmanlaw08_BucketUnits.f k l0 = some r) :
    Calls Try.prog 7 #[.slice A0 l0.length c0] w fun e w' => e = .returned (.bool r) ∧ Below w.heap.size w w' := by
  have hu36 := Try.underlying36
  have HR0 := Aside0.mk hr0
  have HC0 := Aside0.mk hc0
  clear hr0 hc0
  have HB := Aside0.mk (Below.refl w.heap.size w)
  have H : ((signalmanlaw08_awake.f k).bind fun t118 => (if t118 = true then ((signalmanlaw08_units.f k l0).bind fun t119 => (signalmanlaw08_BucketUnits.l0 k t119 (-1) 0 0 0)) else (some false))) = some r := h
  clear h
  replace H := Option.bind_eq_some_iff.mp H
  obtain ⟨t118, A20, H⟩ := H
  replace H : (if t118 = true then ((signalmanlaw08_units.f k l0).bind fun t119 => (signalmanlaw08_BucketUnits.l0 k t119 (-1) 0 0 0)) else (some false)) = some r := H
  have A2 := Aside0.mk A20
  clear A20
  by_cases c3 : t118 = true
  · subst c3
    have H1 : ((signalmanlaw08_units.f k l0).bind fun t119 => (signalmanlaw08_BucketUnits.l0 k t119 (-1) 0 0 0)) = some r := by rw [if_pos rfl] at H; exact H
    clear H
    have H := H1
    clear H1
    replace H := Option.bind_eq_some_iff.mp H
    obtain ⟨t119, A40, H⟩ := H
    replace H : (signalmanlaw08_BucketUnits.l0 k t119 (-1) 0 0 0) = some r := H
    have A4 := Aside0.mk A40
    clear A40
    have H' := Aside0.mk H
    clear H
    go_enter Try.func7, Try.ntmps7
    go_wp2_with (first | ((with_reducible refine gate_callee (f := 23) rfl ?_); refine goesL_ (some 9) rfl rfl Try.func23 (by kernel_rfl) rfl #[] rfl (by (try simp only [List.map_toArray, List.map_cons, List.map_nil]); first | done | rfl | (simp only [List.length_drop, List.length_take]; rfl)) ?_; (with_reducible refine (signalmanlaw08_awake.calls k  true _ A2.out).mono ?_); rintro e w5 ⟨rfl, hb⟩; refine ⟨_, rfl, ?_⟩; have n0_ := Aside0.mk (below_step (by repeat (first | (with_reducible first | exact HB.out | apply below_alloc | apply pw_below_drewN | apply below_drew1) | exact HB.out)) hb); clear HB; have HB := n0_; clear n0_; (try clear hb); (try clear hb2); (try clear hk); (try clear hi)) | ((with_reducible refine gate_callee (f := 24) rfl ?_); refine goesL_ (some 12) rfl rfl Try.func24 (by kernel_rfl) rfl #[.slice A0 l0.length c0] rfl (by (try simp only [List.map_toArray, List.map_cons, List.map_nil]); first | done | rfl | (simp only [List.length_drop, List.length_take]; rfl)) ?_; (with_reducible refine (signalmanlaw08_units.calls k _ _ l0 t119 _ ?side1 ?side2 A4.out).mono ?_); (case side1 => repeat (first | exact (Kd.C_below HR0.out HB.out) | (with_reducible refine Kd.C_alloc ?_ _) | (with_reducible refine Kd.C_drewN ?_ _) | (with_reducible refine Kd.C_drew ?_))); (case side2 => exact HC0.out); rintro e w6 ⟨v120, rfl, ho0, hb⟩; refine ⟨_, rfl, ?_⟩; have n0_ := Aside0.mk (Kd.R_lower ho0 (below_size (by repeat (first | (with_reducible first | exact HB.out | apply below_alloc | apply pw_below_drewN | apply below_drew1) | exact HB.out)))); have n1_ := Aside0.mk (below_step (by repeat (first | (with_reducible first | exact HB.out | apply below_alloc | apply pw_below_drewN | apply below_drew1) | exact HB.out)) hb); clear HB; have HO121 := n0_; have HB := n1_; clear n0_ n1_; (try clear hb); (try clear hb2); (try clear hk); (try clear hi); (try clear ho0)) | ((with_reducible refine gate_dst (N := 4) rfl ?_); refine box_event ?hg (N := 4) ?hd (cs := #[.int .i64 0, .int .i64 0]) (t := 36) ?hr ?_; (case hd => rfl); (case hg => rfl); (case hr => first | (go_simp; done) | (go_simp; rfl)); intro gb122 hg w7 hbox hb; have n0_ := Aside0.mk (Kd.R_below (by (with_reducible repeat (first | apply Kd.R_alloc | apply Kd.R_drewN | apply Kd.R_drew)); exact HO121.out) hb); have n1_ := Aside0.mk (below_step (by repeat (first | (with_reducible first | exact HB.out | apply below_alloc | apply pw_below_drewN | apply below_drew1) | exact HB.out)) hb); have n2_ := Aside0.mk (hbox); have n3_ := Aside0.mk ((by rw [hg]; exact (below_size (by repeat (first | (with_reducible first | exact HB.out | apply below_alloc | apply pw_below_drewN | apply below_drew1) | exact HB.out))) : w.heap.size ≤ gb122)); have n4_ := Aside0.mk ((by rw [hg]; exact (below_size (by repeat (first | (with_reducible first | exact HB.out | apply below_alloc | apply pw_below_drewN | apply below_drew1) | exact HB.out))) : w.heap.size ≤ gb122)); clear HO121; clear HB; have HO121 := n0_; have HB := n1_; have BK122 := n2_; have GW122 := n3_; have GE122 := n4_; clear n0_ n1_ n2_ n3_ n4_; clear hb hbox hg; have hcz8_0 : w7.cell? ⟨gb122, 0, none⟩ = some (.int .i64 0) := (blk_cell BK122.out 0).trans rfl; have hcz8_1 : w7.cell? ⟨gb122, 1, none⟩ = some (.int .i64 0) := (blk_cell BK122.out 1).trans rfl; have hfz8_0 := blk_frozen BK122.out 0; have hfz8_1 := blk_frozen BK122.out 1))
    go_loopg [5, 6] k (fun kq v5 v6 w' => ∃ (x5_1 : Int) (x6_1 : Int) (x123000_1 : Int) (x123001_1 : Int), v5 = .int .i64 x5_1 ∧ v6 = .int .i64 x6_1 ∧ Aside0 (signalmanlaw08_BucketUnits.l0 kq t119 x5_1 x6_1 x123000_1 x123001_1 = some r) ∧ Aside0 (kq ≤ k) ∧ Aside0 (Kd.R Kd.bool 4 w' w.heap.size (fun _ => True) v120 t119) ∧ Aside0 (w'.heap[gb122]? = some (.cells #[.int .i64 x123000_1, .int .i64 x123001_1] 36 (0, 0))) ∧ Aside0 (Below w.heap.size w w'))
    case atStart => exact ⟨((-1)), (0), (0), (0), (by first | rfl | (simp; done) | (simp [*]; done)), (by first | rfl | (simp; done) | (simp [*]; done)), H', ⟨Nat.le_refl _⟩, ⟨by (with_reducible repeat (first | apply Kd.R_alloc | apply Kd.R_drewN | apply Kd.R_drew)); exact Kd.R_mono (Kd.R_far (p := ⟨gb122, 1, none⟩) (Kd.R_far (p := ⟨gb122, 0, none⟩) (Kd.R_types HO121.out BK122.out (by decide)) (fun _ hk => hk.2) (.int .i64 0)) (fun _ hk => hk.2) (.int .i64 0)) (fun _ hk => trivial)⟩, ⟨by (with_reducible repeat (first | refine blk_drewN ?_ _ | refine blk_drew ?_ | refine blk_alloc ?_ _)); refine blk_put (cs := #[.int .i64 0, .int .i64 0]) ?_ 1 _ rfl; (with_reducible repeat (first | refine blk_drewN ?_ _ | refine blk_drew ?_ | refine blk_alloc ?_ _)); refine blk_put (cs := #[.int .i64 0, .int .i64 0]) ?_ 0 _ rfl; (with_reducible repeat (first | refine blk_drewN ?_ _ | refine blk_drew ?_ | refine blk_alloc ?_ _)); exact BK122.out⟩, ⟨by repeat (first | (with_reducible first | exact HB.out | apply below_alloc | apply pw_below_drewN | apply below_drew1 | refine below_set ?_ GE122.out) | exact HB.out)⟩⟩
    case round =>
      clear H'
      try clear c2
      try clear p2
      try clear c3
      try clear c7
      try clear hcz8_0
      try clear hcz8_1
      try clear hfz8_0
      try clear hfz8_1
      obtain ⟨x5_1, x6_1, x123000_1, x123001_1, rfl, rfl, HA, HK1, HO_3, BK122, HB⟩ := hrel
      cases gk with
      | zero => exact absurd HA.out (by simp [signalmanlaw08_BucketUnits.l0])
      | succ k1 =>
        have H := HA.out
        clear HA
        simp only [signalmanlaw08_BucketUnits.l0] at H
        have HC9 := Aside0.mk H
        clear H
        go_upto_region 7 with (fail)
        go_cut [21] (fun v21 wc => ∃ (kq : Nat) (x21_8 : Bool), v21 = .bool x21_8 ∧ Aside0 (signalmanlaw08_BucketUnits.j1 kq t119 x5_1 x6_1 x21_8 x123000_1 x123001_1 = some r) ∧ Aside0 (kq ≤ k1) ∧ Aside0 (Kd.R Kd.bool 4 wc w.heap.size (fun _ => True) v120 t119) ∧ Aside0 (wc.heap[gb122]? = some (.cells #[.int .i64 x123000_1, .int .i64 x123001_1] 36 (0, 0))) ∧ Aside0 (Below w.heap.size w wc))
        case first =>
          have H := HC9.out
          clear HC9
          by_cases c10 : x6_1 < (t119.length : Int)
          · rw [if_pos c10] at H
            have c10b0 : decide (x6_1 < (t119.length : Int)) = true := decide_eq_true c10
            clear c10
            (first | rw [c10b0] | (simp only [i64_w, i32_w]; rw [c10b0]) | skip)
            have H' := Aside0.mk H
            clear H
            obtain ⟨Ao11, co11, eo11⟩ := Kd.R_slice HO_3.out
            subst eo11
            go_wp2
            go_meet
            case rel => exact ⟨_, (decide (x5_1 < 0)), (by first | rfl | (simp; done) | (simp [*]; done)), H', ⟨by have := HK1.out; first | omega | exact Nat.le_refl _⟩, ⟨by (with_reducible repeat (first | apply Kd.R_alloc | apply Kd.R_drewN | apply Kd.R_drew)); exact HO_3.out⟩, ⟨by (with_reducible repeat (first | refine blk_drewN ?_ _ | refine blk_drew ?_ | refine blk_alloc ?_ _)); exact BK122.out⟩, ⟨by repeat (first | (with_reducible first | exact HB.out | apply below_alloc | apply pw_below_drewN | apply below_drew1 | refine below_set ?_ GE122.out) | exact HB.out)⟩⟩
          · rw [if_neg c10] at H
            have c10b0 : decide (x6_1 < (t119.length : Int)) = false := decide_eq_false c10
            clear c10
            (first | rw [c10b0] | (simp only [i64_w, i32_w]; rw [c10b0]) | skip)
            have H' := Aside0.mk H
            clear H
            obtain ⟨Ao12, co12, eo12⟩ := Kd.R_slice HO_3.out
            subst eo12
            go_wp2
            go_meet
            case rel => exact ⟨_, (false), (by first | rfl | (simp; done) | (simp [*]; done)), H', ⟨by have := HK1.out; first | omega | exact Nat.le_refl _⟩, ⟨by (with_reducible repeat (first | apply Kd.R_alloc | apply Kd.R_drewN | apply Kd.R_drew)); exact HO_3.out⟩, ⟨by (with_reducible repeat (first | refine blk_drewN ?_ _ | refine blk_drew ?_ | refine blk_alloc ?_ _)); exact BK122.out⟩, ⟨by repeat (first | (with_reducible first | exact HB.out | apply below_alloc | apply pw_below_drewN | apply below_drew1 | refine below_set ?_ GE122.out) | exact HB.out)⟩⟩
        case rest =>
          clear HC9
          try clear c1
          try clear c2
          try clear p2
          try clear c3
          try clear c7
          try clear c10
          try clear c10b0
          try clear hcz8_0
          try clear hcz8_1
          try clear hfz8_0
          try clear hfz8_1
          try clear p2
          obtain ⟨kq, x21_8, rfl, HA, HJ8, HO_3, BK122, HB⟩ := hcut
          cases kq with
          | zero => exact absurd HA.out (by simp [signalmanlaw08_BucketUnits.j1])
          | succ kj8 =>
            have H := HA.out
            clear HA
            simp only [signalmanlaw08_BucketUnits.j1] at H
            by_cases c13 : x21_8 = true
            · subst c13
              have H1 : (if 0 ≤ x6_1 then (if x6_1 < (t119.length : Int) then ((bucket_Leak_Unit.f kj8 x123000_1 x123001_1 (rdOf false t119 x6_1)).bind fun bt127 => (if (bt127.2.2 != (decide (bt127.1 ≥ 64))) = true then (signalmanlaw08_BucketUnits.j2 kj8 t119 x5_1 x6_1 bt127.2.2 true bt127.1 bt127.2.1) else (if bt127.1 < 0 then (signalmanlaw08_BucketUnits.j2 kj8 t119 x5_1 x6_1 bt127.2.2 true bt127.1 bt127.2.1) else (if bt127.2.1 < 0 then (signalmanlaw08_BucketUnits.j2 kj8 t119 x5_1 x6_1 bt127.2.2 true bt127.1 bt127.2.1) else (signalmanlaw08_BucketUnits.j2 kj8 t119 x5_1 x6_1 bt127.2.2 (decide (bt127.2.1 ≥ 256)) bt127.1 bt127.2.1))))) else (none)) else (none)) = some r := by rw [if_pos rfl] at H; exact H
              clear H
              have H := H1
              clear H1
              by_cases c14 : 0 ≤ x6_1
              · rw [if_pos c14] at H
                have c14b0 : decide (0 ≤ x6_1) = true := decide_eq_true c14
                clear c14
                by_cases c15 : x6_1 < (t119.length : Int)
                · rw [if_pos c15] at H
                  have c15b0 : decide (x6_1 < (t119.length : Int)) = true := decide_eq_true c15
                  clear c15
                  replace H := Option.bind_eq_some_iff.mp H
                  obtain ⟨⟨t127, t128, t129⟩, A160, H⟩ := H
                  replace H : (if (t129 != (decide (t127 ≥ 64))) = true then (signalmanlaw08_BucketUnits.j2 kj8 t119 x5_1 x6_1 t129 true t127 t128) else (if t127 < 0 then (signalmanlaw08_BucketUnits.j2 kj8 t119 x5_1 x6_1 t129 true t127 t128) else (if t128 < 0 then (signalmanlaw08_BucketUnits.j2 kj8 t119 x5_1 x6_1 t129 true t127 t128) else (signalmanlaw08_BucketUnits.j2 kj8 t119 x5_1 x6_1 t129 (decide (t128 ≥ 256)) t127 t128)))) = some r := H
                  have A16 := Aside0.mk A160
                  clear A160
                  have HC17 := Aside0.mk H
                  clear H
                  try go_wp2
                  have n0_ := Aside0.mk (Kd.R_drew HO_3.out)
                  have n1_ := Aside0.mk (blk_drew BK122.out)
                  have n2_ := Aside0.mk (below_drew1 HB.out)
                  clear HO_3
                  clear BK122
                  clear HB
                  have HO_3 := n0_
                  have BK122 := n1_
                  have HB := n2_
                  clear n0_ n1_ n2_
                  obtain ⟨Ao19, co19, eo19⟩ := Kd.R_slice HO_3.out
                  (first | subst eo19 | (injection eo19 with f1_ f2_ f3_; have f4_ := f1_.symm; have f5_ := f3_.symm; clear f1_ f2_ f3_; subst f4_; subst f5_))
                  have p126 : 0 ≤ (x6_1 : Int) := of_decide_eq_true (by first | (with_reducible assumption) | assumption)
                  have q126 : x6_1 < (t119.length : Int) := of_decide_eq_true (by first | (with_reducible assumption) | assumption)
                  obtain ⟨ad126, e126, hx126_0⟩ := Kd.at_bool (Kd.R_reads' HO_3.out).2.2 x6_1 p126 q126
                  cases e126
                  replace p126 := eq_true p126
                  replace q126 := eq_true q126
                  refine start_ (n := 12) (S := fun w' => w'.cell? ⟨gb122, 0, none⟩ = some (.int .i64 x123000_1) ∧ w'.cell? ⟨gb122, 1, none⟩ = some (.int .i64 x123001_1) ∧ w'.cell? (ad126.add (x6_1).toNat) = some (.bool (rdOf false t119 x6_1))) (ds := []) #[false, false, false, false, false, false, false, false, false, false, false, false] (by kernel_rfl) rfl rfl ⟨(blk_cell BK122.out 0).trans rfl, (blk_cell BK122.out 1).trans rfl, hx126_0⟩ (fun hHeld => ?_); refine with_tabW signalmanlaw08_BucketUnits.tab9 signalmanlaw08_BucketUnits.bits9 (fun HT_ HW_ => ?_)
                  generalize wc.drew = w18 at HO_3 BK122 HB hx126_0 hHeld ⊢
                  refine pure_ (i := 1) (N := some 26) (v := ?_) (a' := ?_) #[false, true, false, false, false, false, false, false, false, false, false, false] rfl rfl (any_of HT_.out (by kernel_rfl)) (fun _ _ _ h => h) (Or.inl ⟨by rfl, ?_⟩) ?_ ?_
                  rotate_left
                  · intro w'
                    go_simp
                    with_reducible rfl
                  rotate_left
                  · simp only [Act.put, List.setIfInBounds_toArray, List.set_cons_zero, List.set_cons_succ, i64_w, i32_w]
                    rfl
                  refine pure_ (i := 2) (N := some 27) (v := ?_) (a' := ?_) #[false, true, true, false, false, false, false, false, false, false, false, false] rfl rfl (any_of HT_.out (by kernel_rfl)) (fun _ _ _ h => h) (Or.inl ⟨by rfl, ?_⟩) ?_ ?_
                  rotate_left
                  · intro w'
                    go_simp
                    with_reducible rfl
                  rotate_left
                  · simp only [Act.put, List.setIfInBounds_toArray, List.set_cons_zero, List.set_cons_succ, i64_w, i32_w]
                    rfl
                  refine pure_ (i := 3) (N := some 28) (v := ?_) (a' := ?_) #[false, true, true, true, false, false, false, false, false, false, false, false] rfl rfl (any_of HT_.out (by kernel_rfl)) (fun _ _ _ h => h) (Or.inl ⟨by rfl, ?_⟩) ?_ ?_
                  rotate_left
                  · intro w'
                    go_simp
                    with_reducible rfl
                  rotate_left
                  · simp only [Act.put, List.setIfInBounds_toArray, List.set_cons_zero, List.set_cons_succ, i64_w, i32_w]
                    rfl
                  refine take_ (i := 0) (N := some 25) (v := ?_) (a' := ?_) #[true, true, true, true, false, false, false, false, false, false, false, false] rfl rfl (take_ofW HT_.out HW_.out (by kernel_rfl)) (fun _ _ _ h => h) (Or.inl ⟨by rfl, ?_⟩) hHeld ?_ ?_
                  rotate_left
                  · rintro w' ⟨s0, s1, s2⟩
                    go_simp
                    with_reducible rfl
                  rotate_left
                  · simp only [Act.put, List.setIfInBounds_toArray, List.set_cons_zero, List.set_cons_succ, i64_w, i32_w]
                    rfl
                  refine take_ (i := 4) (N := some 29) (v := ?_) (a' := ?_) #[true, true, true, true, true, false, false, false, false, false, false, false] rfl rfl (take_ofW HT_.out HW_.out (by kernel_rfl)) (fun _ _ _ h => h) (Or.inl ⟨by rfl, ?_⟩) hHeld ?_ ?_
                  rotate_left
                  · rintro w' ⟨s0, s1, s2⟩
                    go_simp
                    with_reducible rfl
                  rotate_left
                  · simp only [Act.put, List.setIfInBounds_toArray, List.set_cons_zero, List.set_cons_succ, i64_w, i32_w]
                    rfl
                  refine join_ (σ := Nat) 2 #[true, true, true, true, true, true, true, true, true, true, false, false] (fun s_ => [(30, .tuple #[.agg #[.int .i64 t127, .int .i64 t128], .bool t129]), (7, .pointer (some ⟨s_, 0, none⟩)), (24, .tuple #[.agg #[.int .i64 t127, .int .i64 t128], .bool t129]), (31, .agg #[.int .i64 t127, .int .i64 t128]), (32, .bool t129)]) (fun s_ w' => (w'.cell? ⟨gb122, 0, none⟩ = some (.int .i64 x123000_1) ∧ w'.cell? ⟨gb122, 1, none⟩ = some (.int .i64 x123001_1) ∧ w'.cell? (ad126.add (x6_1).toNat) = some (.bool (rdOf false t119 x6_1))) ∧ (Kd.R Kd.bool 4 w' w.heap.size (fun _ => True) (.slice (some ad126) t119.length co19) t119) ∧ (w'.heap[gb122]? = some (.cells #[.int .i64 x123000_1, .int .i64 x123001_1] 36 (0, 0))) ∧ (w'.heap[s_]? = some (.cells #[.int .i64 0, .int .i64 0] 36 (0, 0))) ∧ (w.heap.size ≤ s_) ∧ (w.heap.size ≤ s_) ∧ (gb122 ≠ s_) ∧ (s_ ≠ gb122) ∧ (Below w.heap.size w w')) ?_ ?_
                  rotate_left
                  · intro hCont
                    refine two_ (i := 5) (j := 9) (Ni := some 30) (Nj := some 7) #[true, true, true, true, true, true, false, false, false, false, false, false] #[true, true, true, true, true, false, false, false, false, true, false, false] rfl rfl rfl rfl (two_of HT_.out (by kernel_rfl)) (by decide) (by decide) (fun K hK => ?_) (fun K hK => ?_)
                    · skip
                      refine goes_ Try.func25 (by kernel_rfl) rfl #[.agg #[.int .i64 x123000_1, .int .i64 x123001_1], .bool (rdOf false t119 x6_1)] (by rfl) rfl rfl (by (try simp only [List.map_toArray, List.map_cons, List.map_nil]); first | done | rfl | (simp only [List.length_drop, List.length_take]; rfl)) ?_
                      with_reducible refine (bucket_Leak_Unit.calls kj8 x123000_1 x123001_1 (rdOf false t119 x6_1) t127 t128 t129 _ A16.out).mono ?_
                      rintro e w20 ⟨rfl, hb⟩
                      have HS2_ := (hb.cell (World.block_lt_of_cell? _ _ (hHeld.2.2))).trans (hHeld.2.2)
                      refine ⟨_, rfl, ?_⟩
                      have n0_ := Aside0.mk (Kd.R_below (by (with_reducible repeat (first | apply Kd.R_alloc | apply Kd.R_drewN | apply Kd.R_drew)); exact HO_3.out) hb)
                      have n1_ := Aside0.mk (blk_below (g := gb122) (o := .cells #[.int .i64 x123000_1, .int .i64 x123001_1] 36 (0, 0)) (by (with_reducible repeat (first | refine blk_drewN ?_ _ | refine blk_drew ?_ | refine blk_alloc ?_ _)); exact BK122.out) hb)
                      have n2_ := Aside0.mk (below_step (by repeat (first | (with_reducible first | exact HB.out | apply below_alloc | apply pw_below_drewN | apply below_drew1 | refine below_set ?_ GE122.out) | exact HB.out)) hb)
                      clear HO_3
                      clear BK122
                      clear HB
                      have HO_3 := n0_
                      have BK122 := n1_
                      have HB := n2_
                      clear n0_ n1_ n2_
                      (try clear hb)
                      (try clear hb2)
                      (try clear hk)
                      (try clear hi)
                      refine hK.out _ _ ⟨(blk_cell BK122.out 0).trans rfl, (blk_cell BK122.out 1).trans rfl, HS2_⟩ (fun hHeld => ?_)
                      clear hK K
                      refine norm_ (a' := ?_) ?_ ?_
                      rotate_left
                      · show Act.put _ (some 30) _ = _
                        simp only [Act.put, List.setIfInBounds_toArray, List.set_cons_zero, List.set_cons_succ, i64_w, i32_w]
                        rfl
                      refine pure_ (i := 6) (N := some 24) (v := ?_) (a' := ?_) #[true, true, true, true, true, true, true, false, false, false, false, false] rfl rfl (any_of HT_.out (by kernel_rfl)) (fun _ _ _ h => h) (Or.inl ⟨by rfl, ?_⟩) ?_ ?_
                      rotate_left
                      · intro w'
                        go_simp
                        with_reducible rfl
                      rotate_left
                      · simp only [Act.put, List.setIfInBounds_toArray, List.set_cons_zero, List.set_cons_succ, i64_w, i32_w]
                        rfl
                      refine pure_ (i := 7) (N := some 31) (v := ?_) (a' := ?_) #[true, true, true, true, true, true, true, true, false, false, false, false] rfl rfl (any_of HT_.out (by kernel_rfl)) (fun _ _ _ h => h) (Or.inl ⟨by rfl, ?_⟩) ?_ ?_
                      rotate_left
                      · intro w'
                        go_simp
                        with_reducible rfl
                      rotate_left
                      · simp only [Act.put, List.setIfInBounds_toArray, List.set_cons_zero, List.set_cons_succ, i64_w, i32_w]
                        rfl
                      refine pure_ (i := 8) (N := some 32) (v := ?_) (a' := ?_) #[true, true, true, true, true, true, true, true, true, false, false, false] rfl rfl (any_of HT_.out (by kernel_rfl)) (fun _ _ _ h => h) (Or.inl ⟨by rfl, ?_⟩) ?_ ?_
                      rotate_left
                      · intro w'
                        go_simp
                        with_reducible rfl
                      rotate_left
                      · simp only [Act.put, List.setIfInBounds_toArray, List.set_cons_zero, List.set_cons_succ, i64_w, i32_w]
                        rfl
                      refine one_ (i := 9) (N := some 7) #[true, true, true, true, true, true, true, true, true, true, false, false] rfl rfl (one_of HT_.out (by kernel_rfl)) (by decide) (fun K hK => ?_)
                      refine box_step ?hg (N := 7) ?hd (cs := #[.int .i64 0, .int .i64 0]) (t := 36) ?hr ?_; (case hd => rfl); (case hg => rfl); (case hr => first | (go_simp; done) | (go_simp; rfl))
                      intro gb130 hg w21 hbox hb
                      have HS2_ := (hb.cell (World.block_lt_of_cell? _ _ (hHeld.2.2))).trans (hHeld.2.2)
                      have n0_ := Aside0.mk (Kd.R_below (by (with_reducible repeat (first | apply Kd.R_alloc | apply Kd.R_drewN | apply Kd.R_drew)); exact HO_3.out) hb)
                      have n1_ := Aside0.mk (blk_below (g := gb122) (o := .cells #[.int .i64 x123000_1, .int .i64 x123001_1] 36 (0, 0)) (by (with_reducible repeat (first | refine blk_drewN ?_ _ | refine blk_drew ?_ | refine blk_alloc ?_ _)); exact BK122.out) hb)
                      have n2_ := Aside0.mk (below_step (by repeat (first | (with_reducible first | exact HB.out | apply below_alloc | apply pw_below_drewN | apply below_drew1 | refine below_set ?_ GE122.out) | exact HB.out)) hb)
                      have n3_ := Aside0.mk (hbox)
                      have n4_ := Aside0.mk ((by rw [hg]; exact (below_size (by repeat (first | (with_reducible first | exact HB.out | apply below_alloc | apply pw_below_drewN | apply below_drew1 | refine below_set ?_ GE122.out) | exact HB.out))) : w.heap.size ≤ gb130))
                      have n5_ := Aside0.mk ((by rw [hg]; exact (below_size (by repeat (first | (with_reducible first | exact HB.out | apply below_alloc | apply pw_below_drewN | apply below_drew1 | refine below_set ?_ GE122.out) | exact HB.out))) : w.heap.size ≤ gb130))
                      have n6_ := Aside0.mk ((by rw [hg]; exact Nat.ne_of_lt (blk_lt (g := gb122) (o := .cells #[.int .i64 x123000_1, .int .i64 x123001_1] 36 (0, 0)) (by (with_reducible repeat (first | refine blk_drewN ?_ _ | refine blk_drew ?_ | refine blk_alloc ?_ _)); exact BK122.out)) : gb122 ≠ gb130))
                      have n7_ := Aside0.mk ((by rw [hg]; exact Nat.ne_of_gt (blk_lt (g := gb122) (o := .cells #[.int .i64 x123000_1, .int .i64 x123001_1] 36 (0, 0)) (by (with_reducible repeat (first | refine blk_drewN ?_ _ | refine blk_drew ?_ | refine blk_alloc ?_ _)); exact BK122.out)) : gb130 ≠ gb122))
                      clear HO_3
                      clear BK122
                      clear HB
                      have HO_3 := n0_
                      have BK122 := n1_
                      have HB := n2_
                      have BK130 := n3_
                      have GW130 := n4_
                      have GE130 := n5_
                      have NB122_130 := n6_
                      have NB130_122 := n7_
                      clear n0_ n1_ n2_ n3_ n4_ n5_ n6_ n7_
                      clear hb hbox hg
                      refine hK.out _ _ ⟨(blk_cell BK122.out 0).trans rfl, (blk_cell BK122.out 1).trans rfl, HS2_⟩ (fun hHeld => ?_)
                      clear hK K
                      refine norm_ (a' := ?_) ?_ ?_
                      rotate_left
                      · show Act.put _ (some 7) _ = _
                        simp only [Act.put, List.setIfInBounds_toArray, List.set_cons_zero, List.set_cons_succ, i64_w, i32_w]
                        rfl
                      exact norm_ (by simp only [putAll, Act.put, List.setIfInBounds_toArray, List.set_cons_zero, List.set_cons_succ]) (hCont (gb130) _ ⟨hHeld, (by (with_reducible repeat (first | apply Kd.R_alloc | apply Kd.R_drewN | apply Kd.R_drew)); exact HO_3.out), (by (with_reducible repeat (first | refine blk_drewN ?_ _ | refine blk_drew ?_ | refine blk_alloc ?_ _)); exact BK122.out), (by (with_reducible repeat (first | refine blk_drewN ?_ _ | refine blk_drew ?_ | refine blk_alloc ?_ _)); exact BK130.out), GW130.out, GE130.out, NB122_130.out, NB130_122.out, (by repeat (first | (with_reducible first | exact HB.out | apply below_alloc | apply pw_below_drewN | apply below_drew1 | refine below_set ?_ GE122.out | refine below_set ?_ GE130.out) | exact HB.out))⟩)
                    · skip
                      refine box_step ?hg (N := 7) ?hd (cs := #[.int .i64 0, .int .i64 0]) (t := 36) ?hr ?_; (case hd => rfl); (case hg => rfl); (case hr => first | (go_simp; done) | (go_simp; rfl))
                      intro gb130 hg w20 hbox hb
                      have HS2_ := (hb.cell (World.block_lt_of_cell? _ _ (hHeld.2.2))).trans (hHeld.2.2)
                      have n0_ := Aside0.mk (Kd.R_below (by (with_reducible repeat (first | apply Kd.R_alloc | apply Kd.R_drewN | apply Kd.R_drew)); exact HO_3.out) hb)
                      have n1_ := Aside0.mk (blk_below (g := gb122) (o := .cells #[.int .i64 x123000_1, .int .i64 x123001_1] 36 (0, 0)) (by (with_reducible repeat (first | refine blk_drewN ?_ _ | refine blk_drew ?_ | refine blk_alloc ?_ _)); exact BK122.out) hb)
                      have n2_ := Aside0.mk (below_step (by repeat (first | (with_reducible first | exact HB.out | apply below_alloc | apply pw_below_drewN | apply below_drew1 | refine below_set ?_ GE122.out) | exact HB.out)) hb)
                      have n3_ := Aside0.mk (hbox)
                      have n4_ := Aside0.mk ((by rw [hg]; exact (below_size (by repeat (first | (with_reducible first | exact HB.out | apply below_alloc | apply pw_below_drewN | apply below_drew1 | refine below_set ?_ GE122.out) | exact HB.out))) : w.heap.size ≤ gb130))
                      have n5_ := Aside0.mk ((by rw [hg]; exact (below_size (by repeat (first | (with_reducible first | exact HB.out | apply below_alloc | apply pw_below_drewN | apply below_drew1 | refine below_set ?_ GE122.out) | exact HB.out))) : w.heap.size ≤ gb130))
                      have n6_ := Aside0.mk ((by rw [hg]; exact Nat.ne_of_lt (blk_lt (g := gb122) (o := .cells #[.int .i64 x123000_1, .int .i64 x123001_1] 36 (0, 0)) (by (with_reducible repeat (first | refine blk_drewN ?_ _ | refine blk_drew ?_ | refine blk_alloc ?_ _)); exact BK122.out)) : gb122 ≠ gb130))
                      have n7_ := Aside0.mk ((by rw [hg]; exact Nat.ne_of_gt (blk_lt (g := gb122) (o := .cells #[.int .i64 x123000_1, .int .i64 x123001_1] 36 (0, 0)) (by (with_reducible repeat (first | refine blk_drewN ?_ _ | refine blk_drew ?_ | refine blk_alloc ?_ _)); exact BK122.out)) : gb130 ≠ gb122))
                      clear HO_3
                      clear BK122
                      clear HB
                      have HO_3 := n0_
                      have BK122 := n1_
                      have HB := n2_
                      have BK130 := n3_
                      have GW130 := n4_
                      have GE130 := n5_
                      have NB122_130 := n6_
                      have NB130_122 := n7_
                      clear n0_ n1_ n2_ n3_ n4_ n5_ n6_ n7_
                      clear hb hbox hg
                      refine hK.out _ _ ⟨(blk_cell BK122.out 0).trans rfl, (blk_cell BK122.out 1).trans rfl, HS2_⟩ (fun hHeld => ?_)
                      clear hK K
                      refine norm_ (a' := ?_) ?_ ?_
                      rotate_left
                      · show Act.put _ (some 7) _ = _
                        simp only [Act.put, List.setIfInBounds_toArray, List.set_cons_zero, List.set_cons_succ, i64_w, i32_w]
                        rfl
                      refine one_ (i := 5) (N := some 30) #[true, true, true, true, true, true, false, false, false, true, false, false] rfl rfl (one_of HT_.out (by kernel_rfl)) (by decide) (fun K hK => ?_)
                      refine goes_ Try.func25 (by kernel_rfl) rfl #[.agg #[.int .i64 x123000_1, .int .i64 x123001_1], .bool (rdOf false t119 x6_1)] (by rfl) rfl rfl (by (try simp only [List.map_toArray, List.map_cons, List.map_nil]); first | done | rfl | (simp only [List.length_drop, List.length_take]; rfl)) ?_
                      with_reducible refine (bucket_Leak_Unit.calls kj8 x123000_1 x123001_1 (rdOf false t119 x6_1) t127 t128 t129 _ A16.out).mono ?_
                      rintro e w21 ⟨rfl, hb⟩
                      have HS2_ := (hb.cell (World.block_lt_of_cell? _ _ (hHeld.2.2))).trans (hHeld.2.2)
                      refine ⟨_, rfl, ?_⟩
                      have n0_ := Aside0.mk (Kd.R_below (by (with_reducible repeat (first | apply Kd.R_alloc | apply Kd.R_drewN | apply Kd.R_drew)); exact HO_3.out) hb)
                      have n1_ := Aside0.mk (blk_below (g := gb122) (o := .cells #[.int .i64 x123000_1, .int .i64 x123001_1] 36 (0, 0)) (by (with_reducible repeat (first | refine blk_drewN ?_ _ | refine blk_drew ?_ | refine blk_alloc ?_ _)); exact BK122.out) hb)
                      have n2_ := Aside0.mk (blk_below (g := gb130) (o := .cells #[.int .i64 0, .int .i64 0] 36 (0, 0)) (by (with_reducible repeat (first | refine blk_drewN ?_ _ | refine blk_drew ?_ | refine blk_alloc ?_ _)); exact BK130.out) hb)
                      have n3_ := Aside0.mk (below_step (by repeat (first | (with_reducible first | exact HB.out | apply below_alloc | apply pw_below_drewN | apply below_drew1 | refine below_set ?_ GE122.out | refine below_set ?_ GE130.out) | exact HB.out)) hb)
                      clear HO_3
                      clear BK122
                      clear BK130
                      clear HB
                      have HO_3 := n0_
                      have BK122 := n1_
                      have BK130 := n2_
                      have HB := n3_
                      clear n0_ n1_ n2_ n3_
                      (try clear hb)
                      (try clear hb2)
                      (try clear hk)
                      (try clear hi)
                      refine hK.out _ _ ⟨(blk_cell BK122.out 0).trans rfl, (blk_cell BK122.out 1).trans rfl, HS2_⟩ (fun hHeld => ?_)
                      clear hK K
                      refine norm_ (a' := ?_) ?_ ?_
                      rotate_left
                      · show Act.put _ (some 30) _ = _
                        simp only [Act.put, List.setIfInBounds_toArray, List.set_cons_zero, List.set_cons_succ, i64_w, i32_w]
                        rfl
                      refine pure_ (i := 6) (N := some 24) (v := ?_) (a' := ?_) #[true, true, true, true, true, true, true, false, false, true, false, false] rfl rfl (any_of HT_.out (by kernel_rfl)) (fun _ _ _ h => h) (Or.inl ⟨by rfl, ?_⟩) ?_ ?_
                      rotate_left
                      · intro w'
                        go_simp
                        with_reducible rfl
                      rotate_left
                      · simp only [Act.put, List.setIfInBounds_toArray, List.set_cons_zero, List.set_cons_succ, i64_w, i32_w]
                        rfl
                      refine pure_ (i := 7) (N := some 31) (v := ?_) (a' := ?_) #[true, true, true, true, true, true, true, true, false, true, false, false] rfl rfl (any_of HT_.out (by kernel_rfl)) (fun _ _ _ h => h) (Or.inl ⟨by rfl, ?_⟩) ?_ ?_
                      rotate_left
                      · intro w'
                        go_simp
                        with_reducible rfl
                      rotate_left
                      · simp only [Act.put, List.setIfInBounds_toArray, List.set_cons_zero, List.set_cons_succ, i64_w, i32_w]
                        rfl
                      refine pure_ (i := 8) (N := some 32) (v := ?_) (a' := ?_) #[true, true, true, true, true, true, true, true, true, true, false, false] rfl rfl (any_of HT_.out (by kernel_rfl)) (fun _ _ _ h => h) (Or.inl ⟨by rfl, ?_⟩) ?_ ?_
                      rotate_left
                      · intro w'
                        go_simp
                        with_reducible rfl
                      rotate_left
                      · simp only [Act.put, List.setIfInBounds_toArray, List.set_cons_zero, List.set_cons_succ, i64_w, i32_w]
                        rfl
                      exact norm_ (by simp only [putAll, Act.put, List.setIfInBounds_toArray, List.set_cons_zero, List.set_cons_succ]) (hCont (gb130) _ ⟨hHeld, (by (with_reducible repeat (first | apply Kd.R_alloc | apply Kd.R_drewN | apply Kd.R_drew)); exact HO_3.out), (by (with_reducible repeat (first | refine blk_drewN ?_ _ | refine blk_drew ?_ | refine blk_alloc ?_ _)); exact BK122.out), (by (with_reducible repeat (first | refine blk_drewN ?_ _ | refine blk_drew ?_ | refine blk_alloc ?_ _)); exact BK130.out), GW130.out, GE130.out, NB122_130.out, NB130_122.out, (by repeat (first | (with_reducible first | exact HB.out | apply below_alloc | apply pw_below_drewN | apply below_drew1 | refine below_set ?_ GE122.out | refine below_set ?_ GE130.out) | exact HB.out))⟩)
                  rintro gb130 w22 ⟨hS_, h0_, h1_, h2_, h3_, h4_, h5_, h6_, h7_⟩
                  have n0_ : Aside0 (Kd.R Kd.bool 4 w22 w.heap.size (fun _ => True) (.slice (some ad126) t119.length co19) t119) := ⟨h0_⟩
                  have n1_ : Aside0 (w22.heap[gb122]? = some (.cells #[.int .i64 x123000_1, .int .i64 x123001_1] 36 (0, 0))) := ⟨h1_⟩
                  have n2_ : Aside0 (w22.heap[gb130]? = some (.cells #[.int .i64 0, .int .i64 0] 36 (0, 0))) := ⟨h2_⟩
                  have n3_ : Aside0 (w.heap.size ≤ gb130) := ⟨h3_⟩
                  have n4_ : Aside0 (w.heap.size ≤ gb130) := ⟨h4_⟩
                  have n5_ : Aside0 (gb122 ≠ gb130) := ⟨h5_⟩
                  have n6_ : Aside0 (gb130 ≠ gb122) := ⟨h6_⟩
                  have n7_ : Aside0 (Below w.heap.size w w22) := ⟨h7_⟩
                  clear HO_3
                  clear BK122
                  clear HB
                  clear h0_ h1_ h2_ h3_ h4_ h5_ h6_ h7_
                  have HO_3 := n0_
                  have BK122 := n1_
                  have BK130 := n2_
                  have GW130 := n3_
                  have GE130 := n4_
                  have NB122_130 := n5_
                  have NB130_122 := n6_
                  have HB := n7_
                  clear n0_ n1_ n2_ n3_ n4_ n5_ n6_ n7_
                  have hHeld : w22.cell? ⟨gb122, 0, none⟩ = some (.int .i64 x123000_1) ∧ w22.cell? ⟨gb122, 1, none⟩ = some (.int .i64 x123001_1) ∧ w22.cell? (ad126.add (x6_1).toNat) = some (.bool (rdOf false t119 x6_1)) := hS_
                  refine norm_ (a' := ?_) ?_ ?_
                  rotate_left
                  · simp only [putAll, Act.put, List.setIfInBounds_toArray, List.set_cons_zero, List.set_cons_succ]
                    rfl
                  refine one_ (i := 10) (N := none) #[true, true, true, true, true, true, true, true, true, true, true, false] rfl rfl (one_of HT_.out (by kernel_rfl)) (by decide) (fun K hK => ?_)
                  have hs23 : w22.cell? ⟨gb130, 0, none⟩ = some (.int .i64 0) := (blk_cell BK130.out 0).trans rfl
                  have hfs23 := blk_frozen BK130.out 0
                  have hns23_0 := NB122_130.out
                  have hms23_0 := NB130_122.out
                  have hs24 : w22.cell? ⟨gb130, 1, none⟩ = some (.int .i64 0) := (blk_cell BK130.out 1).trans rfl
                  have hfs24 := blk_frozen BK130.out 1
                  have hns24_0 := NB122_130.out
                  have hms24_0 := NB130_122.out
                  refine skip_ (w1 := ?_) (by rfl) rfl ?_ ?_
                  rotate_left
                  · go_simp
                    rfl
                  refine hK.out _ _ ⟨((cell_far (p := ⟨gb130, _, none⟩) NB122_130.out _).trans (((cell_far (p := ⟨gb130, _, none⟩) NB122_130.out _).trans (hHeld.1)))), ((cell_far (p := ⟨gb130, _, none⟩) NB122_130.out _).trans (((cell_far (p := ⟨gb130, _, none⟩) NB122_130.out _).trans (hHeld.2.1)))), ((cell_far (p := ⟨gb130, _, none⟩) (by first | exact Kd.own_blk (Kd.R_ne HO_3.out BK130.out (by decide)) | (rw [add_block]; exact Kd.own_blk (Kd.R_ne HO_3.out BK130.out (by decide))) | (show (Addr.add _ _).block ≠ _; rw [add_block]; exact Kd.own_blk (Kd.R_ne HO_3.out BK130.out (by decide))) | (dsimp only; exact Kd.own_blk (Kd.R_ne HO_3.out BK130.out (by decide)))) _).trans (((cell_far (p := ⟨gb130, _, none⟩) (by first | exact Kd.own_blk (Kd.R_ne HO_3.out BK130.out (by decide)) | (rw [add_block]; exact Kd.own_blk (Kd.R_ne HO_3.out BK130.out (by decide))) | (show (Addr.add _ _).block ≠ _; rw [add_block]; exact Kd.own_blk (Kd.R_ne HO_3.out BK130.out (by decide))) | (dsimp only; exact Kd.own_blk (Kd.R_ne HO_3.out BK130.out (by decide)))) _).trans (hHeld.2.2))))⟩ (fun hHeld => ?_)
                  clear hK K
                  refine pure_ (i := 11) (N := some 8) (v := ?_) (a' := ?_) #[true, true, true, true, true, true, true, true, true, true, true, true] rfl rfl (any_of HT_.out (by kernel_rfl)) (fun _ _ _ h => h) (Or.inl ⟨by rfl, ?_⟩) ?_ ?_
                  rotate_left
                  · intro w'
                    go_simp
                    with_reducible rfl
                  rotate_left
                  · simp only [Act.put, List.setIfInBounds_toArray, List.set_cons_zero, List.set_cons_succ, i64_w, i32_w]
                    rfl
                  refine done_ (done_of HT_.out (by kernel_rfl)) ?_
                  have hnb25 := NB130_122.out
                  have hnc25 := NB122_130.out
                  have hcz26_0 : w22.cell? ⟨gb130, 0, none⟩ = some (.int .i64 0) := (blk_cell BK130.out 0).trans rfl
                  have hcz26_1 : w22.cell? ⟨gb130, 1, none⟩ = some (.int .i64 0) := (blk_cell BK130.out 1).trans rfl
                  have hfz26_0 := blk_frozen BK130.out 0
                  have hfz26_1 := blk_frozen BK130.out 1
                  have hcz27_0 : w22.cell? ⟨gb122, 0, none⟩ = some (.int .i64 x123000_1) := (blk_cell BK122.out 0).trans rfl
                  have hcz27_1 : w22.cell? ⟨gb122, 1, none⟩ = some (.int .i64 x123001_1) := (blk_cell BK122.out 1).trans rfl
                  have hfz27_0 := blk_frozen BK122.out 0
                  have hfz27_1 := blk_frozen BK122.out 1
                  go_upto_region 11 with (fail)
                  go_cut [53] (fun v53 wc => ∃ (kq : Nat) (x53_16 : Bool), v53 = .bool x53_16 ∧ Aside0 (signalmanlaw08_BucketUnits.j2 kq t119 x5_1 x6_1 t129 x53_16 t127 t128 = some r) ∧ Aside0 (kq ≤ kj8) ∧ Aside0 (Kd.R Kd.bool 4 wc w.heap.size (fun _ => True) (.slice (some ad126) t119.length co19) t119) ∧ Aside0 (wc.heap[gb122]? = some (.cells #[.int .i64 t127, .int .i64 t128] 36 (0, 0))) ∧ Aside0 (wc.heap[gb130]? = some (.cells #[.int .i64 t127, .int .i64 t128] 36 (0, 0))) ∧ Aside0 (Below w.heap.size w wc))
                  case first =>
                    have H := HC17.out
                    clear HC17
                    by_cases c28 : (t129 != (decide (t127 ≥ 64))) = true
                    · rw [if_pos c28] at H
                      have c28b0 : (t129 != (decide (t127 ≥ 64))) = true := c28
                      (try (have c28b1 : decide (t129 = (decide (t127 ≥ 64))) = false := by simpa using c28))
                      (try (have c28b2 : (t129 == (decide (t127 ≥ 64))) = false := by simpa using c28))
                      (try (have c28b3 : ¬ (t129 = (decide (t127 ≥ 64))) := by simpa using c28))
                      clear c28
                      (first | rw [c28b0] | (simp only [i64_w, i32_w]; rw [c28b0]) | skip)
                      have H' := Aside0.mk H
                      clear H
                      have hnb29 := NB122_130.out
                      have hnc29 := NB130_122.out
                      have hcz30_0 : w22.cell? ⟨gb122, 0, none⟩ = some (.int .i64 x123000_1) := (blk_cell BK122.out 0).trans rfl
                      have hcz30_1 : w22.cell? ⟨gb122, 1, none⟩ = some (.int .i64 x123001_1) := (blk_cell BK122.out 1).trans rfl
                      have hfz30_0 := blk_frozen BK122.out 0
                      have hfz30_1 := blk_frozen BK122.out 1
                      go_wp2
                      go_meet
                      case rel => exact ⟨_, (true), (by first | rfl | (simp; done) | (simp [*]; done)), H', ⟨by have := HK1.out; have := HJ8.out; first | omega | exact Nat.le_refl _⟩, ⟨by (with_reducible repeat (first | apply Kd.R_alloc | apply Kd.R_drewN | apply Kd.R_drew)); exact Kd.R_mono (Kd.R_far (p := ⟨gb122, 1, none⟩) (Kd.R_far (p := ⟨gb122, 0, none⟩) (Kd.R_far (p := ⟨gb130, 1, none⟩) (Kd.R_far (p := ⟨gb130, 0, none⟩) (Kd.R_types (Kd.R_types HO_3.out BK130.out (by decide)) BK122.out (by decide)) (fun _ hk => hk.1.2) (.int .i64 t127)) (fun _ hk => hk.1.2) (.int .i64 t128)) (fun _ hk => hk.2) (.int .i64 t127)) (fun _ hk => hk.2) (.int .i64 t128)) (fun _ hk => trivial)⟩, ⟨by (with_reducible repeat (first | refine blk_drewN ?_ _ | refine blk_drew ?_ | refine blk_alloc ?_ _)); refine blk_put (cs := #[.int .i64 t127, .int .i64 x123001_1]) ?_ 1 _ rfl; (with_reducible repeat (first | refine blk_drewN ?_ _ | refine blk_drew ?_ | refine blk_alloc ?_ _)); refine blk_put (cs := #[.int .i64 x123000_1, .int .i64 x123001_1]) ?_ 0 _ rfl; (with_reducible repeat (first | refine blk_drewN ?_ _ | refine blk_drew ?_ | refine blk_alloc ?_ _)); refine blk_far ?_ NB122_130.out _; (with_reducible repeat (first | refine blk_drewN ?_ _ | refine blk_drew ?_ | refine blk_alloc ?_ _)); refine blk_far ?_ NB122_130.out _; (with_reducible repeat (first | refine blk_drewN ?_ _ | refine blk_drew ?_ | refine blk_alloc ?_ _)); exact BK122.out⟩, ⟨by (with_reducible repeat (first | refine blk_drewN ?_ _ | refine blk_drew ?_ | refine blk_alloc ?_ _)); refine blk_far ?_ NB130_122.out _; (with_reducible repeat (first | refine blk_drewN ?_ _ | refine blk_drew ?_ | refine blk_alloc ?_ _)); refine blk_far ?_ NB130_122.out _; (with_reducible repeat (first | refine blk_drewN ?_ _ | refine blk_drew ?_ | refine blk_alloc ?_ _)); refine blk_put (cs := #[.int .i64 t127, .int .i64 0]) ?_ 1 _ rfl; (with_reducible repeat (first | refine blk_drewN ?_ _ | refine blk_drew ?_ | refine blk_alloc ?_ _)); refine blk_put (cs := #[.int .i64 0, .int .i64 0]) ?_ 0 _ rfl; (with_reducible repeat (first | refine blk_drewN ?_ _ | refine blk_drew ?_ | refine blk_alloc ?_ _)); exact BK130.out⟩, ⟨by repeat (first | (with_reducible first | exact HB.out | apply below_alloc | apply pw_below_drewN | apply below_drew1 | refine below_set ?_ GE122.out | refine below_set ?_ GE130.out) | exact HB.out)⟩⟩
                    · rw [if_neg c28] at H
                      have c28b0 : (t129 != (decide (t127 ≥ 64))) = false := by simpa using c28
                      (try (have c28b1 : decide (t129 = (decide (t127 ≥ 64))) = true := by simpa using c28))
                      (try (have c28b2 : (t129 == (decide (t127 ≥ 64))) = true := by simpa using c28))
                      clear c28
                      (first | rw [c28b0] | (simp only [i64_w, i32_w]; rw [c28b0]) | skip)
                      by_cases c31 : t127 < 0
                      · rw [if_pos c31] at H
                        have c31b0 : decide (t127 < 0) = true := decide_eq_true c31
                        clear c31
                        have H' := Aside0.mk H
                        clear H
                        have hnb32 := NB122_130.out
                        have hnc32 := NB130_122.out
                        have hcz33_0 : w22.cell? ⟨gb122, 0, none⟩ = some (.int .i64 x123000_1) := (blk_cell BK122.out 0).trans rfl
                        have hcz33_1 : w22.cell? ⟨gb122, 1, none⟩ = some (.int .i64 x123001_1) := (blk_cell BK122.out 1).trans rfl
                        have hfz33_0 := blk_frozen BK122.out 0
                        have hfz33_1 := blk_frozen BK122.out 1
                        go_wp2
                        go_meet
                        case rel => exact ⟨_, (true), (by first | rfl | (simp; done) | (simp [*]; done)), H', ⟨by have := HK1.out; have := HJ8.out; first | omega | exact Nat.le_refl _⟩, ⟨by (with_reducible repeat (first | apply Kd.R_alloc | apply Kd.R_drewN | apply Kd.R_drew)); exact Kd.R_mono (Kd.R_far (p := ⟨gb122, 1, none⟩) (Kd.R_far (p := ⟨gb122, 0, none⟩) (Kd.R_far (p := ⟨gb130, 1, none⟩) (Kd.R_far (p := ⟨gb130, 0, none⟩) (Kd.R_types (Kd.R_types HO_3.out BK130.out (by decide)) BK122.out (by decide)) (fun _ hk => hk.1.2) (.int .i64 t127)) (fun _ hk => hk.1.2) (.int .i64 t128)) (fun _ hk => hk.2) (.int .i64 t127)) (fun _ hk => hk.2) (.int .i64 t128)) (fun _ hk => trivial)⟩, ⟨by (with_reducible repeat (first | refine blk_drewN ?_ _ | refine blk_drew ?_ | refine blk_alloc ?_ _)); refine blk_put (cs := #[.int .i64 t127, .int .i64 x123001_1]) ?_ 1 _ rfl; (with_reducible repeat (first | refine blk_drewN ?_ _ | refine blk_drew ?_ | refine blk_alloc ?_ _)); refine blk_put (cs := #[.int .i64 x123000_1, .int .i64 x123001_1]) ?_ 0 _ rfl; (with_reducible repeat (first | refine blk_drewN ?_ _ | refine blk_drew ?_ | refine blk_alloc ?_ _)); refine blk_far ?_ NB122_130.out _; (with_reducible repeat (first | refine blk_drewN ?_ _ | refine blk_drew ?_ | refine blk_alloc ?_ _)); refine blk_far ?_ NB122_130.out _; (with_reducible repeat (first | refine blk_drewN ?_ _ | refine blk_drew ?_ | refine blk_alloc ?_ _)); exact BK122.out⟩, ⟨by (with_reducible repeat (first | refine blk_drewN ?_ _ | refine blk_drew ?_ | refine blk_alloc ?_ _)); refine blk_far ?_ NB130_122.out _; (with_reducible repeat (first | refine blk_drewN ?_ _ | refine blk_drew ?_ | refine blk_alloc ?_ _)); refine blk_far ?_ NB130_122.out _; (with_reducible repeat (first | refine blk_drewN ?_ _ | refine blk_drew ?_ | refine blk_alloc ?_ _)); refine blk_put (cs := #[.int .i64 t127, .int .i64 0]) ?_ 1 _ rfl; (with_reducible repeat (first | refine blk_drewN ?_ _ | refine blk_drew ?_ | refine blk_alloc ?_ _)); refine blk_put (cs := #[.int .i64 0, .int .i64 0]) ?_ 0 _ rfl; (with_reducible repeat (first | refine blk_drewN ?_ _ | refine blk_drew ?_ | refine blk_alloc ?_ _)); exact BK130.out⟩, ⟨by repeat (first | (with_reducible first | exact HB.out | apply below_alloc | apply pw_below_drewN | apply below_drew1 | refine below_set ?_ GE122.out | refine below_set ?_ GE130.out) | exact HB.out)⟩⟩
                      · rw [if_neg c31] at H
                        have c31b0 : decide (t127 < 0) = false := decide_eq_false c31
                        clear c31
                        by_cases c34 : t128 < 0
                        · rw [if_pos c34] at H
                          have c34b0 : decide (t128 < 0) = true := decide_eq_true c34
                          clear c34
                          have H' := Aside0.mk H
                          clear H
                          have hnb35 := NB122_130.out
                          have hnc35 := NB130_122.out
                          have hcz36_0 : w22.cell? ⟨gb122, 0, none⟩ = some (.int .i64 x123000_1) := (blk_cell BK122.out 0).trans rfl
                          have hcz36_1 : w22.cell? ⟨gb122, 1, none⟩ = some (.int .i64 x123001_1) := (blk_cell BK122.out 1).trans rfl
                          have hfz36_0 := blk_frozen BK122.out 0
                          have hfz36_1 := blk_frozen BK122.out 1
                          go_wp2
                          go_meet
                          case rel => exact ⟨_, (true), (by first | rfl | (simp; done) | (simp [*]; done)), H', ⟨by have := HK1.out; have := HJ8.out; first | omega | exact Nat.le_refl _⟩, ⟨by (with_reducible repeat (first | apply Kd.R_alloc | apply Kd.R_drewN | apply Kd.R_drew)); exact Kd.R_mono (Kd.R_far (p := ⟨gb122, 1, none⟩) (Kd.R_far (p := ⟨gb122, 0, none⟩) (Kd.R_far (p := ⟨gb130, 1, none⟩) (Kd.R_far (p := ⟨gb130, 0, none⟩) (Kd.R_types (Kd.R_types HO_3.out BK130.out (by decide)) BK122.out (by decide)) (fun _ hk => hk.1.2) (.int .i64 t127)) (fun _ hk => hk.1.2) (.int .i64 t128)) (fun _ hk => hk.2) (.int .i64 t127)) (fun _ hk => hk.2) (.int .i64 t128)) (fun _ hk => trivial)⟩, ⟨by (with_reducible repeat (first | refine blk_drewN ?_ _ | refine blk_drew ?_ | refine blk_alloc ?_ _)); refine blk_put (cs := #[.int .i64 t127, .int .i64 x123001_1]) ?_ 1 _ rfl; (with_reducible repeat (first | refine blk_drewN ?_ _ | refine blk_drew ?_ | refine blk_alloc ?_ _)); refine blk_put (cs := #[.int .i64 x123000_1, .int .i64 x123001_1]) ?_ 0 _ rfl; (with_reducible repeat (first | refine blk_drewN ?_ _ | refine blk_drew ?_ | refine blk_alloc ?_ _)); refine blk_far ?_ NB122_130.out _; (with_reducible repeat (first | refine blk_drewN ?_ _ | refine blk_drew ?_ | refine blk_alloc ?_ _)); refine blk_far ?_ NB122_130.out _; (with_reducible repeat (first | refine blk_drewN ?_ _ | refine blk_drew ?_ | refine blk_alloc ?_ _)); exact BK122.out⟩, ⟨by (with_reducible repeat (first | refine blk_drewN ?_ _ | refine blk_drew ?_ | refine blk_alloc ?_ _)); refine blk_far ?_ NB130_122.out _; (with_reducible repeat (first | refine blk_drewN ?_ _ | refine blk_drew ?_ | refine blk_alloc ?_ _)); refine blk_far ?_ NB130_122.out _; (with_reducible repeat (first | refine blk_drewN ?_ _ | refine blk_drew ?_ | refine blk_alloc ?_ _)); refine blk_put (cs := #[.int .i64 t127, .int .i64 0]) ?_ 1 _ rfl; (with_reducible repeat (first | refine blk_drewN ?_ _ | refine blk_drew ?_ | refine blk_alloc ?_ _)); refine blk_put (cs := #[.int .i64 0, .int .i64 0]) ?_ 0 _ rfl; (with_reducible repeat (first | refine blk_drewN ?_ _ | refine blk_drew ?_ | refine blk_alloc ?_ _)); exact BK130.out⟩, ⟨by repeat (first | (with_reducible first | exact HB.out | apply below_alloc | apply pw_below_drewN | apply below_drew1 | refine below_set ?_ GE122.out | refine below_set ?_ GE130.out) | exact HB.out)⟩⟩
                        · rw [if_neg c34] at H
                          have c34b0 : decide (t128 < 0) = false := decide_eq_false c34
                          clear c34
                          have H' := Aside0.mk H
                          clear H
                          have hnb37 := NB122_130.out
                          have hnc37 := NB130_122.out
                          have hcz38_0 : w22.cell? ⟨gb122, 0, none⟩ = some (.int .i64 x123000_1) := (blk_cell BK122.out 0).trans rfl
                          have hcz38_1 : w22.cell? ⟨gb122, 1, none⟩ = some (.int .i64 x123001_1) := (blk_cell BK122.out 1).trans rfl
                          have hfz38_0 := blk_frozen BK122.out 0
                          have hfz38_1 := blk_frozen BK122.out 1
                          go_wp2
                          go_meet
                          case rel => exact ⟨_, (decide (t128 ≥ 256)), (by first | rfl | (simp; done) | (simp [*]; done)), H', ⟨by have := HK1.out; have := HJ8.out; first | omega | exact Nat.le_refl _⟩, ⟨by (with_reducible repeat (first | apply Kd.R_alloc | apply Kd.R_drewN | apply Kd.R_drew)); exact Kd.R_mono (Kd.R_far (p := ⟨gb122, 1, none⟩) (Kd.R_far (p := ⟨gb122, 0, none⟩) (Kd.R_far (p := ⟨gb130, 1, none⟩) (Kd.R_far (p := ⟨gb130, 0, none⟩) (Kd.R_types (Kd.R_types HO_3.out BK130.out (by decide)) BK122.out (by decide)) (fun _ hk => hk.1.2) (.int .i64 t127)) (fun _ hk => hk.1.2) (.int .i64 t128)) (fun _ hk => hk.2) (.int .i64 t127)) (fun _ hk => hk.2) (.int .i64 t128)) (fun _ hk => trivial)⟩, ⟨by (with_reducible repeat (first | refine blk_drewN ?_ _ | refine blk_drew ?_ | refine blk_alloc ?_ _)); refine blk_put (cs := #[.int .i64 t127, .int .i64 x123001_1]) ?_ 1 _ rfl; (with_reducible repeat (first | refine blk_drewN ?_ _ | refine blk_drew ?_ | refine blk_alloc ?_ _)); refine blk_put (cs := #[.int .i64 x123000_1, .int .i64 x123001_1]) ?_ 0 _ rfl; (with_reducible repeat (first | refine blk_drewN ?_ _ | refine blk_drew ?_ | refine blk_alloc ?_ _)); refine blk_far ?_ NB122_130.out _; (with_reducible repeat (first | refine blk_drewN ?_ _ | refine blk_drew ?_ | refine blk_alloc ?_ _)); refine blk_far ?_ NB122_130.out _; (with_reducible repeat (first | refine blk_drewN ?_ _ | refine blk_drew ?_ | refine blk_alloc ?_ _)); exact BK122.out⟩, ⟨by (with_reducible repeat (first | refine blk_drewN ?_ _ | refine blk_drew ?_ | refine blk_alloc ?_ _)); refine blk_far ?_ NB130_122.out _; (with_reducible repeat (first | refine blk_drewN ?_ _ | refine blk_drew ?_ | refine blk_alloc ?_ _)); refine blk_far ?_ NB130_122.out _; (with_reducible repeat (first | refine blk_drewN ?_ _ | refine blk_drew ?_ | refine blk_alloc ?_ _)); refine blk_put (cs := #[.int .i64 t127, .int .i64 0]) ?_ 1 _ rfl; (with_reducible repeat (first | refine blk_drewN ?_ _ | refine blk_drew ?_ | refine blk_alloc ?_ _)); refine blk_put (cs := #[.int .i64 0, .int .i64 0]) ?_ 0 _ rfl; (with_reducible repeat (first | refine blk_drewN ?_ _ | refine blk_drew ?_ | refine blk_alloc ?_ _)); exact BK130.out⟩, ⟨by repeat (first | (with_reducible first | exact HB.out | apply below_alloc | apply pw_below_drewN | apply below_drew1 | refine below_set ?_ GE122.out | refine below_set ?_ GE130.out) | exact HB.out)⟩⟩
                  case rest =>
                    clear HC17
                    try clear c1
                    try clear p1
                    try clear q1
                    try clear hx1
                    try clear c2
                    try clear p2
                    try clear c3
                    try clear c7
                    try clear c10
                    try clear c10b0
                    try clear p12
                    try clear q12
                    try clear hx12
                    try clear c13
                    try clear c14
                    try clear c14b0
                    try clear c15
                    try clear c15b0
                    try clear c23
                    try clear c24
                    try clear c25
                    try clear c28
                    try clear c28b0
                    try clear c28b1
                    try clear c28b2
                    try clear c29
                    try clear c31
                    try clear c31b0
                    try clear c32
                    try clear c34
                    try clear c34b0
                    try clear c35
                    try clear c37
                    try clear hcz26_0
                    try clear hcz26_1
                    try clear hcz27_0
                    try clear hcz27_1
                    try clear hcz30_0
                    try clear hcz30_1
                    try clear hcz33_0
                    try clear hcz33_1
                    try clear hcz36_0
                    try clear hcz36_1
                    try clear hcz38_0
                    try clear hcz38_1
                    try clear hcz8_0
                    try clear hcz8_1
                    try clear hfz26_0
                    try clear hfz26_1
                    try clear hfz27_0
                    try clear hfz27_1
                    try clear hfz30_0
                    try clear hfz30_1
                    try clear hfz33_0
                    try clear hfz33_1
                    try clear hfz36_0
                    try clear hfz36_1
                    try clear hfz38_0
                    try clear hfz38_1
                    try clear hfz8_0
                    try clear hfz8_1
                    try clear hx126_0
                    try clear p126
                    try clear p2
                    try clear q126
                    obtain ⟨kq, x53_16, rfl, HA, HJ16, HO_3, BK122, BK130, HB⟩ := hcut
                    cases kq with
                    | zero => exact absurd HA.out (by simp [signalmanlaw08_BucketUnits.j2])
                    | succ kj16 =>
                      have H := HA.out
                      clear HA
                      simp only [signalmanlaw08_BucketUnits.j2] at H
                      by_cases c39 : x53_16 = true
                      · subst c39
                        have H1 : (some false) = some r := by rw [if_pos rfl] at H; exact H
                        clear H
                        have H := H1
                        clear H1
                        obtain rfl := Option.some.inj H
                        go_wp2
                        go_ret
                        exact ⟨by first | rfl | (simp [errW_none, errW_some] <;> rfl) | (simp [*, errW_none, errW_some] <;> rfl), by repeat (first | (with_reducible first | exact HB.out | apply below_alloc | apply pw_below_drewN | apply below_drew1 | refine below_set ?_ GE122.out | refine below_set ?_ GE130.out) | exact HB.out)⟩
                      · replace c39 := Bool.eq_false_iff.mpr c39
                        subst c39
                        have H1 : (if t129 = true then (signalmanlaw08_BucketUnits.l0 kj16 t119 x6_1 (wrap64 (x6_1 + 1)) t127 t128) else (signalmanlaw08_BucketUnits.l0 kj16 t119 x5_1 (wrap64 (x6_1 + 1)) t127 t128)) = some r := by rw [if_neg (show ¬ (false = true) by decide)] at H; exact H
                        clear H
                        have H := H1
                        clear H1
                        by_cases c40 : t129 = true
                        · subst c40
                          have H1 : (signalmanlaw08_BucketUnits.l0 kj16 t119 x6_1 (wrap64 (x6_1 + 1)) t127 t128) = some r := by rw [if_pos rfl] at H; exact H
                          clear H
                          have H := H1
                          clear H1
                          have H' := Aside0.mk H
                          clear H
                          go_wp2
                          go_roundg kj16
                          case measure => have := HK1.out; have := HJ8.out; have := HJ16.out; omega
                          case rel => exact ⟨(x6_1), (wrap64 (x6_1 + 1)), (t127), (t128), (by first | rfl | (simp; done) | (simp [*]; done)), (by first | rfl | (simp; done) | (simp [*]; done)), H', ⟨by have := HK1.out; have := HJ8.out; have := HJ16.out; omega⟩, ⟨by (with_reducible repeat (first | apply Kd.R_alloc | apply Kd.R_drewN | apply Kd.R_drew)); exact HO_3.out⟩, ⟨by (with_reducible repeat (first | refine blk_drewN ?_ _ | refine blk_drew ?_ | refine blk_alloc ?_ _)); exact BK122.out⟩, ⟨by repeat (first | (with_reducible first | exact HB.out | apply below_alloc | apply pw_below_drewN | apply below_drew1 | refine below_set ?_ GE122.out | refine below_set ?_ GE130.out) | exact HB.out)⟩⟩
                        · replace c40 := Bool.eq_false_iff.mpr c40
                          subst c40
                          have H1 : (signalmanlaw08_BucketUnits.l0 kj16 t119 x5_1 (wrap64 (x6_1 + 1)) t127 t128) = some r := by rw [if_neg (show ¬ (false = true) by decide)] at H; exact H
                          clear H
                          have H := H1
                          clear H1
                          have H' := Aside0.mk H
                          clear H
                          go_wp2
                          go_roundg kj16
                          case measure => have := HK1.out; have := HJ8.out; have := HJ16.out; omega
                          case rel => exact ⟨(x5_1), (wrap64 (x6_1 + 1)), (t127), (t128), (by first | rfl | (simp; done) | (simp [*]; done)), (by first | rfl | (simp; done) | (simp [*]; done)), H', ⟨by have := HK1.out; have := HJ8.out; have := HJ16.out; omega⟩, ⟨by (with_reducible repeat (first | apply Kd.R_alloc | apply Kd.R_drewN | apply Kd.R_drew)); exact HO_3.out⟩, ⟨by (with_reducible repeat (first | refine blk_drewN ?_ _ | refine blk_drew ?_ | refine blk_alloc ?_ _)); exact BK122.out⟩, ⟨by repeat (first | (with_reducible first | exact HB.out | apply below_alloc | apply pw_below_drewN | apply below_drew1 | refine below_set ?_ GE122.out | refine below_set ?_ GE130.out) | exact HB.out)⟩⟩
                · rw [if_neg c15] at H
                  exact absurd H (by simp)
              · rw [if_neg c14] at H
                exact absurd H (by simp)
            · replace c13 := Bool.eq_false_iff.mpr c13
              subst c13
              have H1 : ((bucket_Units.f kj8 t119).bind fun t123 => ((signalmanref06_Fails.f kj8 t119).bind fun t124 => (if t123 = t124 then ((signalmanref06_Fails.f kj8 t119).bind fun t125 => (some (x5_1 == t125))) else (some false)))) = some r := by rw [if_neg (show ¬ (false = true) by decide)] at H; exact H
              clear H
              have H := H1
              clear H1
              replace H := Option.bind_eq_some_iff.mp H
              obtain ⟨t123, A410, H⟩ := H
              replace H : ((signalmanref06_Fails.f kj8 t119).bind fun t124 => (if t123 = t124 then ((signalmanref06_Fails.f kj8 t119).bind fun t125 => (some (x5_1 == t125))) else (some false))) = some r := H
              have A41 := Aside0.mk A410
              clear A410
              replace H := Option.bind_eq_some_iff.mp H
              obtain ⟨t124, A420, H⟩ := H
              replace H : (if t123 = t124 then ((signalmanref06_Fails.f kj8 t119).bind fun t125 => (some (x5_1 == t125))) else (some false)) = some r := H
              have A42 := Aside0.mk A420
              clear A420
              by_cases c43 : t123 = t124
              · rw [if_pos c43] at H
                have c43b0 : (t123 == t124) = true := beq_iff_eq.mpr c43
                have c43b1 : (t123 != t124) = false := bne_eq_false_iff_eq.mpr c43
                clear c43
                replace H := Option.bind_eq_some_iff.mp H
                obtain ⟨t125, A440, H⟩ := H
                replace H : (some (x5_1 == t125)) = some r := H
                have A44 := Aside0.mk A440
                clear A440
                obtain rfl := Option.some.inj H
                obtain ⟨Ao45, co45, eo45⟩ := Kd.R_slice HO_3.out
                subst eo45
                go_wp2_with (first | ((with_reducible refine gate_callee (f := 26) rfl ?_); refine goesL_ (some 57) rfl rfl Try.func26 (by kernel_rfl) rfl #[.slice Ao45 t119.length co45] rfl (by (try simp only [List.map_toArray, List.map_cons, List.map_nil]); first | done | rfl | (simp only [List.length_drop, List.length_take]; rfl)) ?_; (with_reducible refine (bucket_Units.calls kj8 _ _ t119 t123 _ ?side1 ?side2 A41.out).mono ?_); (case side1 => repeat (first | exact (Kd.R_reads' HO_3.out).2.2 | (with_reducible refine Kd.C_alloc ?_ _) | (with_reducible refine Kd.C_drewN ?_ _) | (with_reducible refine Kd.C_drew ?_))); (case side2 => exact (Kd.R_reads' HO_3.out).2.1); rintro e w46 ⟨rfl, hb⟩; refine ⟨_, rfl, ?_⟩; have n0_ := Aside0.mk (Kd.R_below (by (with_reducible repeat (first | apply Kd.R_alloc | apply Kd.R_drewN | apply Kd.R_drew)); exact HO_3.out) hb); have n1_ := Aside0.mk (blk_below (g := gb122) (o := .cells #[.int .i64 x123000_1, .int .i64 x123001_1] 36 (0, 0)) (by (with_reducible repeat (first | refine blk_drewN ?_ _ | refine blk_drew ?_ | refine blk_alloc ?_ _)); exact BK122.out) hb); have n2_ := Aside0.mk (below_step (by repeat (first | (with_reducible first | exact HB.out | apply below_alloc | apply pw_below_drewN | apply below_drew1 | refine below_set ?_ GE122.out) | exact HB.out)) hb); clear HO_3; clear BK122; clear HB; have HO_3 := n0_; have BK122 := n1_; have HB := n2_; clear n0_ n1_ n2_; (try clear hb); (try clear hb2); (try clear hk); (try clear hi)) | ((with_reducible refine gate_callee (f := 27) rfl ?_); refine goesL_ (some 59) rfl rfl Try.func27 (by kernel_rfl) rfl #[.slice Ao45 t119.length co45] rfl (by (try simp only [List.map_toArray, List.map_cons, List.map_nil]); first | done | rfl | (simp only [List.length_drop, List.length_take]; rfl)) ?_; (with_reducible refine (signalmanref06_Fails.calls kj8 _ _ t119 t124 _ ?side1 ?side2 A42.out).mono ?_); (case side1 => repeat (first | exact (Kd.R_reads' HO_3.out).2.2 | (with_reducible refine Kd.C_alloc ?_ _) | (with_reducible refine Kd.C_drewN ?_ _) | (with_reducible refine Kd.C_drew ?_))); (case side2 => exact (Kd.R_reads' HO_3.out).2.1); rintro e w' ⟨rfl, ⟨nd, rfl⟩⟩; refine ⟨_, rfl, ?_⟩) | (go_at_call 27; (with_reducible refine (signalmanref06_Fails.calls kj8 _ _ t119 t125 _ ?side1 ?side2 A44.out).mono ?_); (case side1 => repeat (first | exact (Kd.R_reads' HO_3.out).2.2 | (with_reducible refine Kd.C_alloc ?_ _) | (with_reducible refine Kd.C_drewN ?_ _) | (with_reducible refine Kd.C_drew ?_))); (case side2 => exact (Kd.R_reads' HO_3.out).2.1); rintro e w' ⟨rfl, ⟨nd, rfl⟩⟩))
                go_ret
                exact ⟨by first | rfl | (simp [errW_none, errW_some] <;> rfl) | (simp [*, errW_none, errW_some] <;> rfl), by repeat (first | (with_reducible first | exact HB.out | apply below_alloc | apply pw_below_drewN | apply below_drew1 | refine below_set ?_ GE122.out) | exact HB.out)⟩
              · rw [if_neg c43] at H
                have c43b0 : (t123 == t124) = false := beq_eq_false_iff_ne.mpr c43
                have c43b1 : (t123 != t124) = true := bne_iff_ne.mpr c43
                obtain rfl := Option.some.inj H
                obtain ⟨Ao47, co47, eo47⟩ := Kd.R_slice HO_3.out
                subst eo47
                go_wp2_with (first | ((with_reducible refine gate_callee (f := 26) rfl ?_); refine goesL_ (some 57) rfl rfl Try.func26 (by kernel_rfl) rfl #[.slice Ao47 t119.length co47] rfl (by (try simp only [List.map_toArray, List.map_cons, List.map_nil]); first | done | rfl | (simp only [List.length_drop, List.length_take]; rfl)) ?_; (with_reducible refine (bucket_Units.calls kj8 _ _ t119 t123 _ ?side1 ?side2 A41.out).mono ?_); (case side1 => repeat (first | exact (Kd.R_reads' HO_3.out).2.2 | (with_reducible refine Kd.C_alloc ?_ _) | (with_reducible refine Kd.C_drewN ?_ _) | (with_reducible refine Kd.C_drew ?_))); (case side2 => exact (Kd.R_reads' HO_3.out).2.1); rintro e w48 ⟨rfl, hb⟩; refine ⟨_, rfl, ?_⟩; have n0_ := Aside0.mk (Kd.R_below (by (with_reducible repeat (first | apply Kd.R_alloc | apply Kd.R_drewN | apply Kd.R_drew)); exact HO_3.out) hb); have n1_ := Aside0.mk (blk_below (g := gb122) (o := .cells #[.int .i64 x123000_1, .int .i64 x123001_1] 36 (0, 0)) (by (with_reducible repeat (first | refine blk_drewN ?_ _ | refine blk_drew ?_ | refine blk_alloc ?_ _)); exact BK122.out) hb); have n2_ := Aside0.mk (below_step (by repeat (first | (with_reducible first | exact HB.out | apply below_alloc | apply pw_below_drewN | apply below_drew1 | refine below_set ?_ GE122.out) | exact HB.out)) hb); clear HO_3; clear BK122; clear HB; have HO_3 := n0_; have BK122 := n1_; have HB := n2_; clear n0_ n1_ n2_; (try clear hb); (try clear hb2); (try clear hk); (try clear hi)) | ((with_reducible refine gate_callee (f := 27) rfl ?_); refine goesL_ (some 59) rfl rfl Try.func27 (by kernel_rfl) rfl #[.slice Ao47 t119.length co47] rfl (by (try simp only [List.map_toArray, List.map_cons, List.map_nil]); first | done | rfl | (simp only [List.length_drop, List.length_take]; rfl)) ?_; (with_reducible refine (signalmanref06_Fails.calls kj8 _ _ t119 t124 _ ?side1 ?side2 A42.out).mono ?_); (case side1 => repeat (first | exact (Kd.R_reads' HO_3.out).2.2 | (with_reducible refine Kd.C_alloc ?_ _) | (with_reducible refine Kd.C_drewN ?_ _) | (with_reducible refine Kd.C_drew ?_))); (case side2 => exact (Kd.R_reads' HO_3.out).2.1); rintro e w' ⟨rfl, ⟨nd, rfl⟩⟩; refine ⟨_, rfl, ?_⟩))
                go_ret
                exact ⟨by first | rfl | (simp [errW_none, errW_some] <;> rfl) | (simp [*, errW_none, errW_some] <;> rfl), by repeat (first | (with_reducible first | exact HB.out | apply below_alloc | apply pw_below_drewN | apply below_drew1 | refine below_set ?_ GE122.out) | exact HB.out)⟩
  · replace c3 := Bool.eq_false_iff.mpr c3
    subst c3
    have H1 : (some false) = some r := by rw [if_neg (show ¬ (false = true) by decide)] at H; exact H
    clear H
    have H := H1
    clear H1
    obtain rfl := Option.some.inj H
    go_enter Try.func7, Try.ntmps7
    go_wp2_with (first | ((with_reducible refine gate_callee (f := 23) rfl ?_); refine goesL_ (some 9) rfl rfl Try.func23 (by kernel_rfl) rfl #[] rfl (by (try simp only [List.map_toArray, List.map_cons, List.map_nil]); first | done | rfl | (simp only [List.length_drop, List.length_take]; rfl)) ?_; (with_reducible refine (signalmanlaw08_awake.calls k  false _ A2.out).mono ?_); rintro e w49 ⟨rfl, hb⟩; refine ⟨_, rfl, ?_⟩; have n0_ := Aside0.mk (below_step (by repeat (first | (with_reducible first | exact HB.out | apply below_alloc | apply pw_below_drewN | apply below_drew1) | exact HB.out)) hb); clear HB; have HB := n0_; clear n0_; (try clear hb); (try clear hb2); (try clear hk); (try clear hi)))
    go_ret
    exact ⟨by first | rfl | (simp [errW_none, errW_some] <;> rfl) | (simp [*, errW_none, errW_some] <;> rfl), by repeat (first | (with_reducible first | exact HB.out | apply below_alloc | apply pw_below_drewN | apply below_drew1) | exact HB.out)⟩

/-- THE ONE PURE STATEMENT of signalmanlaw08_BucketUnits: yours. -/
def signalmanlaw08_BucketUnits.Pure : Prop := ∀ (l0 : List Int), l0.length ≤ maxLen → l0.length * 2 ≤ 140737488351232 → (∀ x ∈ l0, (Lit.int .u16 x).wf = true) → ∃ k, signalmanlaw08_BucketUnits.f k l0 = some true
theorem signalmanlaw08_BucketUnits.walk (P : signalmanlaw08_BucketUnits.Pure) (a0 : Option Addr) (len0 cap0 : Nat) (z0 : List Int) (w : World) (w0 : (a0 = none ∧ len0 = 0 ∧ cap0 = 0 ∧ z0 = []) ∨ ∃ x, a0 = some x ∧ len0 ≤ cap0 ∧ cap0 ≤ maxLen ∧ z0.length = cap0 ∧ (∀ i, i < z0.length → w.cell? (x.add i) = some (.int .u16 (z0.getD i 0))) ∧ ∀ n ∈ z0, (Lit.int .u16 n).wf = true) (y0 : len0 * 2 ≤ 140737488351232) :
    Calls Try.prog 7 #[.slice a0 len0 cap0] w fun e w' => e = .returned (.bool true) ∧ Below w.heap.size w w' := by
  obtain ⟨l0, rfl, hr0, hm0, hw0, hc0⟩ := ReadsInt.ofRowC w0
  obtain ⟨k, h⟩ := P l0 hm0 y0 hw0
  refine (signalmanlaw08_BucketUnits.calls k _ _ l0 true w (Kd.C_of_reads (d := (0 : Int)) (h1 := fun _ => rfl) hr0) hc0 h).mono ?_
  rintro e w' ⟨rfl, hd⟩
  exact ⟨rfl, hd⟩

end Go.Proofs.Ytailojidffehnaa.PBucketUnits
