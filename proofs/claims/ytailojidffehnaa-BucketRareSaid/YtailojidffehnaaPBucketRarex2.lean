-- PRINTED BY print.sh 35421559b90ae4d0a3588c463048766b98c2df88dd9212a6774a882060cdf62d: not written by this session
import Derived.Test.YtailojidffehnaaPBucketRarex0
import Derived.Test.YtailojidffehnaaPBucketRarex1
namespace Go.Proofs.Ytailojidffehnaa.PBucketRare
open Go.RowKit Go.Proofs.YtailojidffehnaaW.PrintWords Go.Proofs.YtailojidffehnaaW.PrintLast Go.Proofs.YtailojidffehnaaW.PrintMore
attribute [local go_sem] max2_int min2_int max_two min_two max_three min_three max_four min_four   -- for this text's walks alone
set_option linter.unusedVariables false
set_option linter.unusedSimpArgs false

/-! ### signalmanlaw08_BucketRare: function 9 -/
mutual
def signalmanlaw08_BucketRare.j0 : Nat → List Int → Bool → Option (Bool)
  | 0, _, _ => none
  | k + 1, x0, x13 => if x13 = true then ((signalmanlaw08_awake.f k).bind fun t114 => (some t114)) else (signalmanlaw08_BucketRare.l0 k x0 0 0 0)
def signalmanlaw08_BucketRare.l0 : Nat → List Int → Int → Int → Int → Option (Bool)
  | 0, _, _, _, _ => none
  | k + 1, x0, x4, x116000, x116001 => if x4 < (x0.length : Int) then ((bucket_Leak_Unit.f k x116000 x116001 true).bind fun bt116 => (if bt116.2.2 = true then (signalmanlaw08_BucketRare.j2 k x0 x4 true bt116.1 bt116.2.1) else (signalmanlaw08_BucketRare.j2 k x0 x4 (decide (bt116.1 > 1)) bt116.1 bt116.2.1))) else (some true)
def signalmanlaw08_BucketRare.j2 : Nat → List Int → Int → Bool → Int → Int → Option (Bool)
  | 0, _, _, _, _, _ => none
  | k + 1, x0, x4, x32, x116000, x116001 => if x32 = true then (some false) else (signalmanlaw08_BucketRare.l1 k x0 x4 0 x116000 x116001)
def signalmanlaw08_BucketRare.l1 : Nat → List Int → Int → Int → Int → Int → Option (Bool)
  | 0, _, _, _, _, _ => none
  | k + 1, x0, x4, x6, x116000, x116001 => if 0 ≤ x4 then (if x4 < (x0.length : Int) then (if x6 < (wrap64 (255 + (wrap64 (Int.tmod (rd x0 x4) 100)))) then ((bucket_Leak_Unit.f k x116000 x116001 false).bind fun bt120 => (if bt120.2.2 = true then (some false) else (signalmanlaw08_BucketRare.l1 k x0 x4 (wrap64 (x6 + 1)) bt120.1 bt120.2.1))) else (signalmanlaw08_BucketRare.l0 k x0 (wrap64 (x4 + 1)) x116000 x116001)) else (none)) else (none)
end
def signalmanlaw08_BucketRare.f (k : Nat) (l0 : List Int) : Option (Bool) := (signalmanlaw08_awake.f k).bind fun t113 => (if t113 = true then (signalmanlaw08_BucketRare.j0 k l0 (decide ((l0.length : Int) > 100))) else (signalmanlaw08_BucketRare.j0 k l0 true))
theorem signalmanlaw08_BucketRare.mono_l : ∀ k, (∀ y0 y1, LeO (signalmanlaw08_BucketRare.j0 k y0 y1) (signalmanlaw08_BucketRare.j0 (k + 1) y0 y1)) ∧ (∀ y0 y1 y2 y3, LeO (signalmanlaw08_BucketRare.l0 k y0 y1 y2 y3) (signalmanlaw08_BucketRare.l0 (k + 1) y0 y1 y2 y3)) ∧ (∀ y0 y1 y2 y3 y4, LeO (signalmanlaw08_BucketRare.j2 k y0 y1 y2 y3 y4) (signalmanlaw08_BucketRare.j2 (k + 1) y0 y1 y2 y3 y4)) ∧ (∀ y0 y1 y2 y3 y4, LeO (signalmanlaw08_BucketRare.l1 k y0 y1 y2 y3 y4) (signalmanlaw08_BucketRare.l1 (k + 1) y0 y1 y2 y3 y4))
  | 0 => ⟨fun _ _ r h => by simp [signalmanlaw08_BucketRare.j0] at h, fun _ _ _ _ r h => by simp [signalmanlaw08_BucketRare.l0] at h, fun _ _ _ _ _ r h => by simp [signalmanlaw08_BucketRare.j2] at h, fun _ _ _ _ _ r h => by simp [signalmanlaw08_BucketRare.l1] at h⟩
  | k + 1 => by
    obtain ⟨ih0, ih1, ih2, ih3⟩ := signalmanlaw08_BucketRare.mono_l k
    refine ⟨?_, ?_, ?_, ?_⟩
    · intro y0 y1
      unfold signalmanlaw08_BucketRare.j0
      repeat' first
      | (with_reducible exact ih0 _ _)
      | (with_reducible exact ih1 _ _ _ _)
      | (with_reducible exact ih2 _ _ _ _ _)
      | (with_reducible exact ih3 _ _ _ _ _)
      | (with_reducible exact bucket_Leak_Unit.mono _ _ _ _)
      | (with_reducible exact signalmanlaw08_awake.mono _)
      | (with_reducible exact LeO.refl _)
      | (with_reducible exact LeO.none _)
      | (with_reducible refine LeO.ite ?_ ?_)
      | (with_reducible refine LeO.bind ?_ (fun _ => ?_))
      | exact ih0 _ _
      | exact ih1 _ _ _ _
      | exact ih2 _ _ _ _ _
      | exact ih3 _ _ _ _ _
      | exact bucket_Leak_Unit.mono _ _ _ _
      | exact signalmanlaw08_awake.mono _
      | exact LeO.none _
      | refine LeO.ite ?_ ?_
      | refine LeO.bind ?_ (fun _ => ?_)
    · intro y0 y1 y2 y3
      unfold signalmanlaw08_BucketRare.l0
      repeat' first
      | (with_reducible exact ih0 _ _)
      | (with_reducible exact ih1 _ _ _ _)
      | (with_reducible exact ih2 _ _ _ _ _)
      | (with_reducible exact ih3 _ _ _ _ _)
      | (with_reducible exact bucket_Leak_Unit.mono _ _ _ _)
      | (with_reducible exact signalmanlaw08_awake.mono _)
      | (with_reducible exact LeO.refl _)
      | (with_reducible exact LeO.none _)
      | (with_reducible refine LeO.ite ?_ ?_)
      | (with_reducible refine LeO.bind ?_ (fun _ => ?_))
      | exact ih0 _ _
      | exact ih1 _ _ _ _
      | exact ih2 _ _ _ _ _
      | exact ih3 _ _ _ _ _
      | exact bucket_Leak_Unit.mono _ _ _ _
      | exact signalmanlaw08_awake.mono _
      | exact LeO.none _
      | refine LeO.ite ?_ ?_
      | refine LeO.bind ?_ (fun _ => ?_)
    · intro y0 y1 y2 y3 y4
      unfold signalmanlaw08_BucketRare.j2
      repeat' first
      | (with_reducible exact ih0 _ _)
      | (with_reducible exact ih1 _ _ _ _)
      | (with_reducible exact ih2 _ _ _ _ _)
      | (with_reducible exact ih3 _ _ _ _ _)
      | (with_reducible exact bucket_Leak_Unit.mono _ _ _ _)
      | (with_reducible exact signalmanlaw08_awake.mono _)
      | (with_reducible exact LeO.refl _)
      | (with_reducible exact LeO.none _)
      | (with_reducible refine LeO.ite ?_ ?_)
      | (with_reducible refine LeO.bind ?_ (fun _ => ?_))
      | exact ih0 _ _
      | exact ih1 _ _ _ _
      | exact ih2 _ _ _ _ _
      | exact ih3 _ _ _ _ _
      | exact bucket_Leak_Unit.mono _ _ _ _
      | exact signalmanlaw08_awake.mono _
      | exact LeO.none _
      | refine LeO.ite ?_ ?_
      | refine LeO.bind ?_ (fun _ => ?_)
    · intro y0 y1 y2 y3 y4
      unfold signalmanlaw08_BucketRare.l1
      repeat' first
      | (with_reducible exact ih0 _ _)
      | (with_reducible exact ih1 _ _ _ _)
      | (with_reducible exact ih2 _ _ _ _ _)
      | (with_reducible exact ih3 _ _ _ _ _)
      | (with_reducible exact bucket_Leak_Unit.mono _ _ _ _)
      | (with_reducible exact signalmanlaw08_awake.mono _)
      | (with_reducible exact LeO.refl _)
      | (with_reducible exact LeO.none _)
      | (with_reducible refine LeO.ite ?_ ?_)
      | (with_reducible refine LeO.bind ?_ (fun _ => ?_))
      | exact ih0 _ _
      | exact ih1 _ _ _ _
      | exact ih2 _ _ _ _ _
      | exact ih3 _ _ _ _ _
      | exact bucket_Leak_Unit.mono _ _ _ _
      | exact signalmanlaw08_awake.mono _
      | exact LeO.none _
      | refine LeO.ite ?_ ?_
      | refine LeO.bind ?_ (fun _ => ?_)
theorem signalmanlaw08_BucketRare.mono : ∀ a0 k, LeO (signalmanlaw08_BucketRare.f k a0) (signalmanlaw08_BucketRare.f (k + 1) a0) := by
  intro a0 k
  obtain ⟨ih0, ih1, ih2, ih3⟩ := signalmanlaw08_BucketRare.mono_l k
  unfold signalmanlaw08_BucketRare.f
  repeat' first
      | (with_reducible exact ih0 _ _)
      | (with_reducible exact ih1 _ _ _ _)
      | (with_reducible exact ih2 _ _ _ _ _)
      | (with_reducible exact ih3 _ _ _ _ _)
      | (with_reducible exact bucket_Leak_Unit.mono _ _ _ _)
      | (with_reducible exact signalmanlaw08_awake.mono _)
      | (with_reducible exact LeO.refl _)
      | (with_reducible exact LeO.none _)
      | (with_reducible refine LeO.ite ?_ ?_)
      | (with_reducible refine LeO.bind ?_ (fun _ => ?_))
      | exact ih0 _ _
      | exact ih1 _ _ _ _
      | exact ih2 _ _ _ _ _
      | exact ih3 _ _ _ _ _
      | exact bucket_Leak_Unit.mono _ _ _ _
      | exact signalmanlaw08_awake.mono _
      | exact LeO.none _
      | refine LeO.ite ?_ ?_
      | refine LeO.bind ?_ (fun _ => ?_)
set_option maxHeartbeats 8000000 in
set_option maxRecDepth 100000 in
theorem signalmanlaw08_BucketRare.calls (k : Nat) (A0 : Option Addr) (c0 : Nat) (l0 : List Int) (r : Bool) (w : World) (hr0 : Kd.C (Kd.int .u16) w A0 l0.length l0) (hc0 : l0.length ≤ c0) (h : signalmanlaw08_BucketRare.f k l0 = some r) :
    Calls Try.prog 9 #[.slice A0 l0.length c0] w fun e w' => e = .returned (.bool r) ∧ Below w.heap.size w w' := by
  have hu36 := Try.underlying36
  have HR0 := Aside0.mk hr0
  have HC0 := Aside0.mk hc0
  clear hr0 hc0
  have HB := Aside0.mk (Below.refl w.heap.size w)
  have H : ((signalmanlaw08_awake.f k).bind fun t113 => (if t113 = true then (signalmanlaw08_BucketRare.j0 k l0 (decide ((l0.length : Int) > 100))) else (signalmanlaw08_BucketRare.j0 k l0 true))) = some r := h
  clear h
  have HC2 := Aside0.mk H
  clear H
  go_enter Try.func9, Try.ntmps9
  go_upto_region 1 with (fail)
  go_cut [13] (fun v13 wc => ∃ (kq : Nat) (x13_1 : Bool), v13 = .bool x13_1 ∧ Aside0 (signalmanlaw08_BucketRare.j0 kq l0 x13_1 = some r) ∧ Aside0 (kq ≤ k) ∧ Aside0 (Below w.heap.size w wc))
  case first =>
    have H := HC2.out
    clear HC2
    replace H := Option.bind_eq_some_iff.mp H
    obtain ⟨t113, A30, H⟩ := H
    replace H : (if t113 = true then (signalmanlaw08_BucketRare.j0 k l0 (decide ((l0.length : Int) > 100))) else (signalmanlaw08_BucketRare.j0 k l0 true)) = some r := H
    have A3 := Aside0.mk A30
    clear A30
    by_cases c4 : t113 = true
    · subst c4
      have H1 : (signalmanlaw08_BucketRare.j0 k l0 (decide ((l0.length : Int) > 100))) = some r := by rw [if_pos rfl] at H; exact H
      clear H
      have H := H1
      clear H1
      have H' := Aside0.mk H
      clear H
      go_wp2_with (first | ((with_reducible refine gate_callee (f := 23) rfl ?_); refine goesL_ (some 7) rfl rfl Try.func23 (by kernel_rfl) rfl #[] rfl (by (try simp only [List.map_toArray, List.map_cons, List.map_nil]); first | done | rfl | (simp only [List.length_drop, List.length_take]; rfl)) ?_; (with_reducible refine (signalmanlaw08_awake.calls k  true _ A3.out).mono ?_); rintro e w5 ⟨rfl, hb⟩; refine ⟨_, rfl, ?_⟩; have n0_ := Aside0.mk (below_step (by repeat (first | (with_reducible first | exact HB.out | apply below_alloc | apply pw_below_drewN | apply below_drew1) | exact HB.out)) hb); clear HB; have HB := n0_; clear n0_; (try clear hb); (try clear hb2); (try clear hk); (try clear hi)))
      go_meet
      case rel => exact ⟨_, (decide ((l0.length : Int) > 100)), (by first | rfl | (simp; done) | (simp [*]; done)), H', ⟨by first | omega | exact Nat.le_refl _⟩, ⟨by repeat (first | (with_reducible first | exact HB.out | apply below_alloc | apply pw_below_drewN | apply below_drew1) | exact HB.out)⟩⟩
    · replace c4 := Bool.eq_false_iff.mpr c4
      subst c4
      have H1 : (signalmanlaw08_BucketRare.j0 k l0 true) = some r := by rw [if_neg (show ¬ (false = true) by decide)] at H; exact H
      clear H
      have H := H1
      clear H1
      have H' := Aside0.mk H
      clear H
      go_wp2_with (first | ((with_reducible refine gate_callee (f := 23) rfl ?_); refine goesL_ (some 7) rfl rfl Try.func23 (by kernel_rfl) rfl #[] rfl (by (try simp only [List.map_toArray, List.map_cons, List.map_nil]); first | done | rfl | (simp only [List.length_drop, List.length_take]; rfl)) ?_; (with_reducible refine (signalmanlaw08_awake.calls k  false _ A3.out).mono ?_); rintro e w6 ⟨rfl, hb⟩; refine ⟨_, rfl, ?_⟩; have n0_ := Aside0.mk (below_step (by repeat (first | (with_reducible first | exact HB.out | apply below_alloc | apply pw_below_drewN | apply below_drew1) | exact HB.out)) hb); clear HB; have HB := n0_; clear n0_; (try clear hb); (try clear hb2); (try clear hk); (try clear hi)))
      go_meet
      case rel => exact ⟨_, (true), (by first | rfl | (simp; done) | (simp [*]; done)), H', ⟨by first | omega | exact Nat.le_refl _⟩, ⟨by repeat (first | (with_reducible first | exact HB.out | apply below_alloc | apply pw_below_drewN | apply below_drew1) | exact HB.out)⟩⟩
  case rest =>
    clear HC2
    try clear c2
    try clear p2
    try clear c4
    obtain ⟨kq, x13_1, rfl, HA, HJ1, HB⟩ := hcut
    cases kq with
    | zero => exact absurd HA.out (by simp [signalmanlaw08_BucketRare.j0])
    | succ kj1 =>
      have H := HA.out
      clear HA
      simp only [signalmanlaw08_BucketRare.j0] at H
      by_cases c7 : x13_1 = true
      · subst c7
        have H1 : ((signalmanlaw08_awake.f kj1).bind fun t114 => (some t114)) = some r := by rw [if_pos rfl] at H; exact H
        clear H
        have H := H1
        clear H1
        replace H := Option.bind_eq_some_iff.mp H
        obtain ⟨t114, A80, H⟩ := H
        replace H : (some t114) = some r := H
        have A8 := Aside0.mk A80
        clear A80
        obtain rfl := Option.some.inj H
        go_wp2_with (first | ((with_reducible refine gate_callee (f := 23) rfl ?_); refine goesL_ (some 14) rfl rfl Try.func23 (by kernel_rfl) rfl #[] rfl (by (try simp only [List.map_toArray, List.map_cons, List.map_nil]); first | done | rfl | (simp only [List.length_drop, List.length_take]; rfl)) ?_; (with_reducible refine (signalmanlaw08_awake.calls kj1  t114 _ A8.out).mono ?_); rintro e w9 ⟨rfl, hb⟩; refine ⟨_, rfl, ?_⟩; have n0_ := Aside0.mk (below_step (by repeat (first | (with_reducible first | exact HB.out | apply below_alloc | apply pw_below_drewN | apply below_drew1) | exact HB.out)) hb); clear HB; have HB := n0_; clear n0_; (try clear hb); (try clear hb2); (try clear hk); (try clear hi)))
        go_ret
        exact ⟨by first | rfl | (simp [errW_none, errW_some] <;> rfl) | (simp [*, errW_none, errW_some] <;> rfl), by repeat (first | (with_reducible first | exact HB.out | apply below_alloc | apply pw_below_drewN | apply below_drew1) | exact HB.out)⟩
      · replace c7 := Bool.eq_false_iff.mpr c7
        subst c7
        have H1 : (signalmanlaw08_BucketRare.l0 kj1 l0 0 0 0) = some r := by rw [if_neg (show ¬ (false = true) by decide)] at H; exact H
        clear H
        have H := H1
        clear H1
        have H' := Aside0.mk H
        clear H
        go_wp2_with (first | ((with_reducible refine gate_dst (N := 3) rfl ?_); (try (refine gate_guard (by rfl) ?_; dsimp only)); refine box_event ?hg (N := 3) ?hd (cs := #[.int .i64 0, .int .i64 0]) (t := 36) ?hr ?_; (case hd => rfl); (case hg => rfl); (case hr => first | (go_simp; done) | (go_simp; rfl)); intro gb115 hg w10 hbox hb; have n0_ := Aside0.mk (below_step (by repeat (first | (with_reducible first | exact HB.out | apply below_alloc | apply pw_below_drewN | apply below_drew1) | exact HB.out)) hb); have n1_ := Aside0.mk (hbox); have n2_ := Aside0.mk ((by rw [hg]; exact (below_size (by repeat (first | (with_reducible first | exact HB.out | apply below_alloc | apply pw_below_drewN | apply below_drew1) | exact HB.out))) : w.heap.size ≤ gb115)); have n3_ := Aside0.mk ((by rw [hg]; exact (below_size (by repeat (first | (with_reducible first | exact HB.out | apply below_alloc | apply pw_below_drewN | apply below_drew1) | exact HB.out))) : w.heap.size ≤ gb115)); clear HB; have HB := n0_; have BK115 := n1_; have GW115 := n2_; have GE115 := n3_; clear n0_ n1_ n2_ n3_; clear hb hbox hg; have hcz11_0 : w10.cell? ⟨gb115, 0, none⟩ = some (.int .i64 0) := (blk_cell BK115.out 0).trans rfl; have hcz11_1 : w10.cell? ⟨gb115, 1, none⟩ = some (.int .i64 0) := (blk_cell BK115.out 1).trans rfl; have hfz11_0 := blk_frozen BK115.out 0; have hfz11_1 := blk_frozen BK115.out 1))
        go_loopg [4] kj1 (fun kq v4 w' => ∃ (x4_2 : Int) (x116000_2 : Int) (x116001_2 : Int), v4 = .int .i64 x4_2 ∧ Aside0 (signalmanlaw08_BucketRare.l0 kq l0 x4_2 x116000_2 x116001_2 = some r) ∧ Aside0 (kq ≤ kj1) ∧ Aside0 (w'.heap[gb115]? = some (.cells #[.int .i64 x116000_2, .int .i64 x116001_2] 36 (0, 0))) ∧ Aside0 (Below w.heap.size w w'))
        case atStart => exact ⟨(0), (0), (0), (by first | rfl | (simp; done) | (simp [*]; done)), H', ⟨Nat.le_refl _⟩, ⟨by (with_reducible repeat (first | refine blk_drewN ?_ _ | refine blk_drew ?_ | refine blk_alloc ?_ _)); refine blk_put (cs := #[.int .i64 0, .int .i64 0]) ?_ 1 _ rfl; (with_reducible repeat (first | refine blk_drewN ?_ _ | refine blk_drew ?_ | refine blk_alloc ?_ _)); refine blk_put (cs := #[.int .i64 0, .int .i64 0]) ?_ 0 _ rfl; (with_reducible repeat (first | refine blk_drewN ?_ _ | refine blk_drew ?_ | refine blk_alloc ?_ _)); exact BK115.out⟩, ⟨by repeat (first | (with_reducible first | exact HB.out | apply below_alloc | apply pw_below_drewN | apply below_drew1 | refine below_set ?_ GE115.out) | exact HB.out)⟩⟩
        case round =>
          clear H'
          try clear c2
          try clear p2
          try clear c4
          try clear c7
          try clear c9
          try clear hcz11_0
          try clear hcz11_1
          try clear hfz11_0
          try clear hfz11_1
          try clear p2
          obtain ⟨x4_2, x116000_2, x116001_2, rfl, HA, HK2, BK115, HB⟩ := hrel
          cases gk with
          | zero => exact absurd HA.out (by simp [signalmanlaw08_BucketRare.l0])
          | succ k2 =>
            have H := HA.out
            clear HA
            simp only [signalmanlaw08_BucketRare.l0] at H
            by_cases c12 : x4_2 < (l0.length : Int)
            · rw [if_pos c12] at H
              have c12b0 : decide (x4_2 < (l0.length : Int)) = true := decide_eq_true c12
              clear c12
              replace H := Option.bind_eq_some_iff.mp H
              obtain ⟨⟨t116, t117, t118⟩, A130, H⟩ := H
              replace H : (if t118 = true then (signalmanlaw08_BucketRare.j2 k2 l0 x4_2 true t116 t117) else (signalmanlaw08_BucketRare.j2 k2 l0 x4_2 (decide (t116 > 1)) t116 t117)) = some r := H
              have A13 := Aside0.mk A130
              clear A130
              have HC14 := Aside0.mk H
              clear H
              have hcz15_0 : wr.cell? ⟨gb115, 0, none⟩ = some (.int .i64 x116000_2) := (blk_cell BK115.out 0).trans rfl
              have hcz15_1 : wr.cell? ⟨gb115, 1, none⟩ = some (.int .i64 x116001_2) := (blk_cell BK115.out 1).trans rfl
              have hfz15_0 := blk_frozen BK115.out 0
              have hfz15_1 := blk_frozen BK115.out 1
              go_upto_region 9 with (first | ((with_reducible refine gate_callee (f := 25) rfl ?_); refine goesL_ (some 24) rfl rfl Try.func25 (by kernel_rfl) rfl #[.agg #[.int .i64 x116000_2, .int .i64 x116001_2], .bool true] rfl (by (try simp only [List.map_toArray, List.map_cons, List.map_nil]); first | done | rfl | (simp only [List.length_drop, List.length_take]; rfl)) ?_; (with_reducible refine (bucket_Leak_Unit.calls k2 x116000_2 x116001_2 true t116 t117 t118 _ A13.out).mono ?_); rintro e w16 ⟨rfl, hb⟩; refine ⟨_, rfl, ?_⟩; have n0_ := Aside0.mk (blk_below (g := gb115) (o := .cells #[.int .i64 x116000_2, .int .i64 x116001_2] 36 (0, 0)) (by (with_reducible repeat (first | refine blk_drewN ?_ _ | refine blk_drew ?_ | refine blk_alloc ?_ _)); exact BK115.out) hb); have n1_ := Aside0.mk (below_step (by repeat (first | (with_reducible first | exact HB.out | apply below_alloc | apply pw_below_drewN | apply below_drew1 | refine below_set ?_ GE115.out) | exact HB.out)) hb); clear BK115; clear HB; have BK115 := n0_; have HB := n1_; clear n0_ n1_; (try clear hb); (try clear hb2); (try clear hk); (try clear hi); have hcz17_0 : w16.cell? ⟨gb115, 0, none⟩ = some (.int .i64 x116000_2) := (blk_cell BK115.out 0).trans rfl; have hcz17_1 : w16.cell? ⟨gb115, 1, none⟩ = some (.int .i64 x116001_2) := (blk_cell BK115.out 1).trans rfl; have hfz17_0 := blk_frozen BK115.out 0; have hfz17_1 := blk_frozen BK115.out 1))
              (try simp only [Act.put, List.setIfInBounds_toArray, List.set_cons_zero, List.set_cons_succ])
              go_cut [32] (fun v32 wc => ∃ (kq : Nat) (x32_13 : Bool), v32 = .bool x32_13 ∧ Aside0 (signalmanlaw08_BucketRare.j2 kq l0 x4_2 x32_13 t116 t117 = some r) ∧ Aside0 (kq ≤ k2) ∧ Aside0 (wc.heap[gb115]? = some (.cells #[.int .i64 t116, .int .i64 t117] 36 (0, 0))) ∧ Aside0 (Below w.heap.size w wc))
              case first =>
                have H := HC14.out
                clear HC14
                by_cases c18 : t118 = true
                · subst c18
                  have H1 : (signalmanlaw08_BucketRare.j2 k2 l0 x4_2 true t116 t117) = some r := by rw [if_pos rfl] at H; exact H
                  clear H
                  have H := H1
                  clear H1
                  have H' := Aside0.mk H
                  clear H
                  go_wp2
                  go_meet
                  case rel => exact ⟨_, (true), (by first | rfl | (simp; done) | (simp [*]; done)), H', ⟨by have := HJ1.out; have := HK2.out; first | omega | exact Nat.le_refl _⟩, ⟨by (with_reducible repeat (first | refine blk_drewN ?_ _ | refine blk_drew ?_ | refine blk_alloc ?_ _)); refine blk_put (cs := #[.int .i64 t116, .int .i64 x116001_2]) ?_ 1 _ rfl; (with_reducible repeat (first | refine blk_drewN ?_ _ | refine blk_drew ?_ | refine blk_alloc ?_ _)); refine blk_put (cs := #[.int .i64 x116000_2, .int .i64 x116001_2]) ?_ 0 _ rfl; (with_reducible repeat (first | refine blk_drewN ?_ _ | refine blk_drew ?_ | refine blk_alloc ?_ _)); exact BK115.out⟩, ⟨by repeat (first | (with_reducible first | exact HB.out | apply below_alloc | apply pw_below_drewN | apply below_drew1 | refine below_set ?_ GE115.out) | exact HB.out)⟩⟩
                · replace c18 := Bool.eq_false_iff.mpr c18
                  subst c18
                  have H1 : (signalmanlaw08_BucketRare.j2 k2 l0 x4_2 (decide (t116 > 1)) t116 t117) = some r := by rw [if_neg (show ¬ (false = true) by decide)] at H; exact H
                  clear H
                  have H := H1
                  clear H1
                  have H' := Aside0.mk H
                  clear H
                  have hcz19_0 : w16.cell? ⟨gb115, 0, none⟩ = some (.int .i64 x116000_2) := (blk_cell BK115.out 0).trans rfl
                  have hcz19_1 : w16.cell? ⟨gb115, 1, none⟩ = some (.int .i64 x116001_2) := (blk_cell BK115.out 1).trans rfl
                  have hfz19_0 := blk_frozen BK115.out 0
                  have hfz19_1 := blk_frozen BK115.out 1
                  go_wp2
                  go_meet
                  case rel => exact ⟨_, (decide (t116 > 1)), (by first | rfl | (simp; done) | (simp [*]; done)), H', ⟨by have := HJ1.out; have := HK2.out; first | omega | exact Nat.le_refl _⟩, ⟨by (with_reducible repeat (first | refine blk_drewN ?_ _ | refine blk_drew ?_ | refine blk_alloc ?_ _)); refine blk_put (cs := #[.int .i64 t116, .int .i64 x116001_2]) ?_ 1 _ rfl; (with_reducible repeat (first | refine blk_drewN ?_ _ | refine blk_drew ?_ | refine blk_alloc ?_ _)); refine blk_put (cs := #[.int .i64 x116000_2, .int .i64 x116001_2]) ?_ 0 _ rfl; (with_reducible repeat (first | refine blk_drewN ?_ _ | refine blk_drew ?_ | refine blk_alloc ?_ _)); exact BK115.out⟩, ⟨by repeat (first | (with_reducible first | exact HB.out | apply below_alloc | apply pw_below_drewN | apply below_drew1 | refine below_set ?_ GE115.out) | exact HB.out)⟩⟩
              case rest =>
                clear HC14
                try clear c1
                try clear c2
                try clear p2
                try clear c4
                try clear c7
                try clear c9
                try clear c12
                try clear c12b0
                try clear c18
                try clear hcz11_0
                try clear hcz11_1
                try clear hcz15_0
                try clear hcz15_1
                try clear hcz17_0
                try clear hcz17_1
                try clear hcz19_0
                try clear hcz19_1
                try clear hfz11_0
                try clear hfz11_1
                try clear hfz15_0
                try clear hfz15_1
                try clear hfz17_0
                try clear hfz17_1
                try clear hfz19_0
                try clear hfz19_1
                try clear p2
                obtain ⟨kq, x32_13, rfl, HA, HJ13, BK115, HB⟩ := hcut
                cases kq with
                | zero => exact absurd HA.out (by simp [signalmanlaw08_BucketRare.j2])
                | succ kj13 =>
                  have H := HA.out
                  clear HA
                  simp only [signalmanlaw08_BucketRare.j2] at H
                  by_cases c20 : x32_13 = true
                  · subst c20
                    have H1 : (some false) = some r := by rw [if_pos rfl] at H; exact H
                    clear H
                    have H := H1
                    clear H1
                    obtain rfl := Option.some.inj H
                    go_wp2
                    go_ret
                    exact ⟨by first | rfl | (simp [errW_none, errW_some] <;> rfl) | (simp [*, errW_none, errW_some] <;> rfl), by repeat (first | (with_reducible first | exact HB.out | apply below_alloc | apply pw_below_drewN | apply below_drew1 | refine below_set ?_ GE115.out) | exact HB.out)⟩
                  · replace c20 := Bool.eq_false_iff.mpr c20
                    subst c20
                    have H1 : (signalmanlaw08_BucketRare.l1 kj13 l0 x4_2 0 t116 t117) = some r := by rw [if_neg (show ¬ (false = true) by decide)] at H; exact H
                    clear H
                    have H := H1
                    clear H1
                    have H' := Aside0.mk H
                    clear H
                    go_wp2
                    go_loopg [6] kj13 (fun kq v6 w' => ∃ (x6_4 : Int) (x116000_4 : Int) (x116001_4 : Int), v6 = .int .i64 x6_4 ∧ Aside0 (signalmanlaw08_BucketRare.l1 kq l0 x4_2 x6_4 x116000_4 x116001_4 = some r) ∧ Aside0 (kq ≤ kj13) ∧ Aside0 (w'.heap[gb115]? = some (.cells #[.int .i64 x116000_4, .int .i64 x116001_4] 36 (0, 0))) ∧ Aside0 (Below w.heap.size w w'))
                    case atStart => exact ⟨(0), (t116), (t117), (by first | rfl | (simp; done) | (simp [*]; done)), H', ⟨Nat.le_refl _⟩, ⟨by (with_reducible repeat (first | refine blk_drewN ?_ _ | refine blk_drew ?_ | refine blk_alloc ?_ _)); exact BK115.out⟩, ⟨by repeat (first | (with_reducible first | exact HB.out | apply below_alloc | apply pw_below_drewN | apply below_drew1 | refine below_set ?_ GE115.out) | exact HB.out)⟩⟩
                    case round =>
                      clear H'
                      try clear c1
                      try clear c2
                      try clear p2
                      try clear c4
                      try clear c7
                      try clear c9
                      try clear c12
                      try clear c12b0
                      try clear c18
                      try clear c20
                      try clear hcz11_0
                      try clear hcz11_1
                      try clear hcz15_0
                      try clear hcz15_1
                      try clear hcz17_0
                      try clear hcz17_1
                      try clear hcz19_0
                      try clear hcz19_1
                      try clear hfz11_0
                      try clear hfz11_1
                      try clear hfz15_0
                      try clear hfz15_1
                      try clear hfz17_0
                      try clear hfz17_1
                      try clear hfz19_0
                      try clear hfz19_1
                      try clear p2
                      obtain ⟨x6_4, x116000_4, x116001_4, rfl, HA, HK4, BK115, HB⟩ := hrel
                      cases gk with
                      | zero => exact absurd HA.out (by simp [signalmanlaw08_BucketRare.l1])
                      | succ k4 =>
                        have H := HA.out
                        clear HA
                        simp only [signalmanlaw08_BucketRare.l1] at H
                        by_cases c21 : 0 ≤ x4_2
                        · rw [if_pos c21] at H
                          have c21b0 : decide (0 ≤ x4_2) = true := decide_eq_true c21
                          clear c21
                          by_cases c22 : x4_2 < (l0.length : Int)
                          · rw [if_pos c22] at H
                            have c22b0 : decide (x4_2 < (l0.length : Int)) = true := decide_eq_true c22
                            clear c22
                            by_cases c23 : x6_4 < (wrap64 (255 + (wrap64 (Int.tmod (rd l0 x4_2) 100))))
                            · rw [if_pos c23] at H
                              have c23b0 : decide (x6_4 < (wrap64 (255 + (wrap64 (Int.tmod (rd l0 x4_2) 100))))) = true := decide_eq_true c23
                              clear c23
                              replace H := Option.bind_eq_some_iff.mp H
                              obtain ⟨⟨t120, t121, t122⟩, A240, H⟩ := H
                              replace H : (if t122 = true then (some false) else (signalmanlaw08_BucketRare.l1 k4 l0 x4_2 (wrap64 (x6_4 + 1)) t120 t121)) = some r := H
                              have A24 := Aside0.mk A240
                              clear A240
                              by_cases c25 : t122 = true
                              · subst c25
                                have H1 : (some false) = some r := by rw [if_pos rfl] at H; exact H
                                clear H
                                have H := H1
                                clear H1
                                obtain rfl := Option.some.inj H
                                have p119 : 0 ≤ (x4_2 : Int) := of_decide_eq_true (by first | (with_reducible assumption) | assumption)
                                have q119 : x4_2 < (l0.length : Int) := of_decide_eq_true (by first | (with_reducible assumption) | assumption)
                                obtain ⟨ad119, e119, hx119_0⟩ := Kd.at_int HR0.out x4_2 p119 q119
                                cases e119
                                replace hx119_0 := (HB.out.cell (World.block_lt_of_cell? w _ hx119_0)).trans hx119_0
                                replace p119 := eq_true p119
                                replace q119 := eq_true q119
                                have hcz26_0 : wr.cell? ⟨gb115, 0, none⟩ = some (.int .i64 x116000_4) := (blk_cell BK115.out 0).trans rfl
                                have hcz26_1 : wr.cell? ⟨gb115, 1, none⟩ = some (.int .i64 x116001_4) := (blk_cell BK115.out 1).trans rfl
                                have hfz26_0 := blk_frozen BK115.out 0
                                have hfz26_1 := blk_frozen BK115.out 1
                                go_wp2_with (first | ((with_reducible refine gate_callee (f := 25) rfl ?_); refine goesL_ (some 46) rfl rfl Try.func25 (by kernel_rfl) rfl #[.agg #[.int .i64 x116000_4, .int .i64 x116001_4], .bool false] rfl (by (try simp only [List.map_toArray, List.map_cons, List.map_nil]); first | done | rfl | (simp only [List.length_drop, List.length_take]; rfl)) ?_; (with_reducible refine (bucket_Leak_Unit.calls k4 x116000_4 x116001_4 false t120 t121 true _ A24.out).mono ?_); rintro e w27 ⟨rfl, hb⟩; refine ⟨_, rfl, ?_⟩; have n0_ := Aside0.mk (blk_below (g := gb115) (o := .cells #[.int .i64 x116000_4, .int .i64 x116001_4] 36 (0, 0)) (by (with_reducible repeat (first | refine blk_drewN ?_ _ | refine blk_drew ?_ | refine blk_alloc ?_ _)); exact BK115.out) hb); have n1_ := Aside0.mk (below_step (by repeat (first | (with_reducible first | exact HB.out | apply below_alloc | apply pw_below_drewN | apply below_drew1 | refine below_set ?_ GE115.out) | exact HB.out)) hb); clear BK115; clear HB; have BK115 := n0_; have HB := n1_; clear n0_ n1_; (try clear hb); (try clear hb2); (try clear hk); (try clear hi); have hcz28_0 : w27.cell? ⟨gb115, 0, none⟩ = some (.int .i64 x116000_4) := (blk_cell BK115.out 0).trans rfl; have hcz28_1 : w27.cell? ⟨gb115, 1, none⟩ = some (.int .i64 x116001_4) := (blk_cell BK115.out 1).trans rfl; have hfz28_0 := blk_frozen BK115.out 0; have hfz28_1 := blk_frozen BK115.out 1))
                                go_ret
                                exact ⟨by first | rfl | (simp [errW_none, errW_some] <;> rfl) | (simp [*, errW_none, errW_some] <;> rfl), by repeat (first | (with_reducible first | exact HB.out | apply below_alloc | apply pw_below_drewN | apply below_drew1 | refine below_set ?_ GE115.out) | exact HB.out)⟩
                              · replace c25 := Bool.eq_false_iff.mpr c25
                                subst c25
                                have H1 : (signalmanlaw08_BucketRare.l1 k4 l0 x4_2 (wrap64 (x6_4 + 1)) t120 t121) = some r := by rw [if_neg (show ¬ (false = true) by decide)] at H; exact H
                                clear H
                                have H := H1
                                clear H1
                                have H' := Aside0.mk H
                                clear H
                                have p119 : 0 ≤ (x4_2 : Int) := of_decide_eq_true (by first | (with_reducible assumption) | assumption)
                                have q119 : x4_2 < (l0.length : Int) := of_decide_eq_true (by first | (with_reducible assumption) | assumption)
                                obtain ⟨ad119, e119, hx119_0⟩ := Kd.at_int HR0.out x4_2 p119 q119
                                cases e119
                                replace hx119_0 := (HB.out.cell (World.block_lt_of_cell? w _ hx119_0)).trans hx119_0
                                replace p119 := eq_true p119
                                replace q119 := eq_true q119
                                have hcz29_0 : wr.cell? ⟨gb115, 0, none⟩ = some (.int .i64 x116000_4) := (blk_cell BK115.out 0).trans rfl
                                have hcz29_1 : wr.cell? ⟨gb115, 1, none⟩ = some (.int .i64 x116001_4) := (blk_cell BK115.out 1).trans rfl
                                have hfz29_0 := blk_frozen BK115.out 0
                                have hfz29_1 := blk_frozen BK115.out 1
                                go_wp2_with (first | ((with_reducible refine gate_callee (f := 25) rfl ?_); refine goesL_ (some 46) rfl rfl Try.func25 (by kernel_rfl) rfl #[.agg #[.int .i64 x116000_4, .int .i64 x116001_4], .bool false] rfl (by (try simp only [List.map_toArray, List.map_cons, List.map_nil]); first | done | rfl | (simp only [List.length_drop, List.length_take]; rfl)) ?_; (with_reducible refine (bucket_Leak_Unit.calls k4 x116000_4 x116001_4 false t120 t121 false _ A24.out).mono ?_); rintro e w30 ⟨rfl, hb⟩; refine ⟨_, rfl, ?_⟩; have n0_ := Aside0.mk (blk_below (g := gb115) (o := .cells #[.int .i64 x116000_4, .int .i64 x116001_4] 36 (0, 0)) (by (with_reducible repeat (first | refine blk_drewN ?_ _ | refine blk_drew ?_ | refine blk_alloc ?_ _)); exact BK115.out) hb); have n1_ := Aside0.mk (below_step (by repeat (first | (with_reducible first | exact HB.out | apply below_alloc | apply pw_below_drewN | apply below_drew1 | refine below_set ?_ GE115.out) | exact HB.out)) hb); clear BK115; clear HB; have BK115 := n0_; have HB := n1_; clear n0_ n1_; (try clear hb); (try clear hb2); (try clear hk); (try clear hi); have hcz31_0 : w30.cell? ⟨gb115, 0, none⟩ = some (.int .i64 x116000_4) := (blk_cell BK115.out 0).trans rfl; have hcz31_1 : w30.cell? ⟨gb115, 1, none⟩ = some (.int .i64 x116001_4) := (blk_cell BK115.out 1).trans rfl; have hfz31_0 := blk_frozen BK115.out 0; have hfz31_1 := blk_frozen BK115.out 1))
                                go_roundg k4
                                case measure => have := HJ1.out; have := HK2.out; have := HJ13.out; have := HK4.out; omega
                                case rel => exact ⟨(wrap64 (x6_4 + 1)), (t120), (t121), (by first | rfl | (simp; done) | (simp [*]; done)), H', ⟨by have := HJ1.out; have := HK2.out; have := HJ13.out; have := HK4.out; omega⟩, ⟨by (with_reducible repeat (first | refine blk_drewN ?_ _ | refine blk_drew ?_ | refine blk_alloc ?_ _)); refine blk_put (cs := #[.int .i64 t120, .int .i64 x116001_4]) ?_ 1 _ rfl; (with_reducible repeat (first | refine blk_drewN ?_ _ | refine blk_drew ?_ | refine blk_alloc ?_ _)); refine blk_put (cs := #[.int .i64 x116000_4, .int .i64 x116001_4]) ?_ 0 _ rfl; (with_reducible repeat (first | refine blk_drewN ?_ _ | refine blk_drew ?_ | refine blk_alloc ?_ _)); exact BK115.out⟩, ⟨by repeat (first | (with_reducible first | exact HB.out | apply below_alloc | apply pw_below_drewN | apply below_drew1 | refine below_set ?_ GE115.out) | exact HB.out)⟩⟩
                            · rw [if_neg c23] at H
                              have c23b0 : decide (x6_4 < (wrap64 (255 + (wrap64 (Int.tmod (rd l0 x4_2) 100))))) = false := decide_eq_false c23
                              clear c23
                              have H' := Aside0.mk H
                              clear H
                              have p119 : 0 ≤ (x4_2 : Int) := of_decide_eq_true (by first | (with_reducible assumption) | assumption)
                              have q119 : x4_2 < (l0.length : Int) := of_decide_eq_true (by first | (with_reducible assumption) | assumption)
                              obtain ⟨ad119, e119, hx119_0⟩ := Kd.at_int HR0.out x4_2 p119 q119
                              cases e119
                              replace hx119_0 := (HB.out.cell (World.block_lt_of_cell? w _ hx119_0)).trans hx119_0
                              replace p119 := eq_true p119
                              replace q119 := eq_true q119
                              go_wp2
                              go_roundg k4
                              case measure => have := HJ1.out; have := HK2.out; have := HJ13.out; have := HK4.out; omega
                              case rel => exact ⟨(wrap64 (x4_2 + 1)), (x116000_4), (x116001_4), (by first | rfl | (simp; done) | (simp [*]; done)), H', ⟨by have := HJ1.out; have := HK2.out; have := HJ13.out; have := HK4.out; omega⟩, ⟨by (with_reducible repeat (first | refine blk_drewN ?_ _ | refine blk_drew ?_ | refine blk_alloc ?_ _)); exact BK115.out⟩, ⟨by repeat (first | (with_reducible first | exact HB.out | apply below_alloc | apply pw_below_drewN | apply below_drew1 | refine below_set ?_ GE115.out) | exact HB.out)⟩⟩
                          · rw [if_neg c22] at H
                            exact absurd H (by simp)
                        · rw [if_neg c21] at H
                          exact absurd H (by simp)
            · rw [if_neg c12] at H
              have c12b0 : decide (x4_2 < (l0.length : Int)) = false := decide_eq_false c12
              clear c12
              obtain rfl := Option.some.inj H
              go_wp2
              go_ret
              exact ⟨by first | rfl | (simp [errW_none, errW_some] <;> rfl) | (simp [*, errW_none, errW_some] <;> rfl), by repeat (first | (with_reducible first | exact HB.out | apply below_alloc | apply pw_below_drewN | apply below_drew1 | refine below_set ?_ GE115.out) | exact HB.out)⟩

/-- THE ONE PURE STATEMENT of signalmanlaw08_BucketRare: yours. -/
def signalmanlaw08_BucketRare.Pure : Prop := ∀ (l0 : List Int), l0.length ≤ maxLen → l0.length * 2 ≤ 140737488351232 → (∀ x ∈ l0, (Lit.int .u16 x).wf = true) → ∃ k, signalmanlaw08_BucketRare.f k l0 = some true
theorem signalmanlaw08_BucketRare.walk (P : signalmanlaw08_BucketRare.Pure) (a0 : Option Addr) (len0 cap0 : Nat) (z0 : List Int) (w : World) (w0 : (a0 = none ∧ len0 = 0 ∧ cap0 = 0 ∧ z0 = []) ∨ ∃ x, a0 = some x ∧ len0 ≤ cap0 ∧ cap0 ≤ maxLen ∧ z0.length = cap0 ∧ (∀ i, i < z0.length → w.cell? (x.add i) = some (.int .u16 (z0.getD i 0))) ∧ ∀ n ∈ z0, (Lit.int .u16 n).wf = true) (y0 : len0 * 2 ≤ 140737488351232) :
    Calls Try.prog 9 #[.slice a0 len0 cap0] w fun e w' => e = .returned (.bool true) ∧ Below w.heap.size w w' := by
  obtain ⟨l0, rfl, hr0, hm0, hw0, hc0⟩ := ReadsInt.ofRowC w0
  obtain ⟨k, h⟩ := P l0 hm0 y0 hw0
  refine (signalmanlaw08_BucketRare.calls k _ _ l0 true w (Kd.C_of_reads (d := (0 : Int)) (h1 := fun _ => rfl) hr0) hc0 h).mono ?_
  rintro e w' ⟨rfl, hd⟩
  exact ⟨rfl, hd⟩

end Go.Proofs.Ytailojidffehnaa.PBucketRare
