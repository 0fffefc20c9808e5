/-
  Each once, in order, by the basic method, without a queue: the walk.
-/
import Derived.Test.YtadheikcgdhcdaaLosB
import Derived.Test.YtadheikcgdhcdaaWAny
namespace Go.Proofs.Ytadheikcgdhcdaa
open Go.RowKit
set_option linter.unusedVariables false
set_option linter.unusedSimpArgs false

theorem ltake_r (uf : Bool) (x : Nat) (m : Bool) (s : LSt) : (ltake uf x m s).r = if (decide (uf = s.bib) && decide (x = s.r) && m) = true then s.r + 1 else s.r := by
  unfold ltake
  by_cases h1 : uf = s.bib
  · by_cases h2 : x = s.r
    · cases m <;> simp [h1, h2]
    · rw [if_pos h1, if_neg h2]; simp [h2]
  · rw [if_neg h1]; simp [h1]
theorem ltake_p (uf : Bool) (x : Nat) (m : Bool) (s : LSt) : (ltake uf x m s).p = s.p ∧ (ltake uf x m s).P = s.P := by
  unfold ltake
  split
  · split
    · split <;> exact ⟨rfl, rfl⟩
    · exact ⟨rfl, rfl⟩
  · exact ⟨rfl, rfl⟩
set_option maxRecDepth 100000 in
set_option maxHeartbeats 16000000 in
theorem wayloses_b (n0 : Int) (a : Option Addr) (len cap : Nat) (zs : List Int) (w : World) (hz : Came w .u8 a len zs) (hm : len ≤ 60) (hn : 0 ≤ n0 ∧ n0 ≤ 255) :
    Calls Try.prog 16 #[.bool false, .int .u8 n0, .slice a len cap] w fun e w' => e = .returned (.bool true) ∧ Below w.heap.size w w' := by
  have HZ := Lib.hid hz
  have hd : ¬ ((60 : Int) < (len : Int)) := by omega
  have hw1 : IntKind.i64.wrap n0 = n0 := wrapH _ (by omega)
  obtain ⟨N, hN⟩ : ∃ N : Nat, n0 % 40 = N := ⟨(n0 % 40).toNat, by omega⟩
  have hNt : n0.tmod 40 = (N : Int) := by rw [Int.tmod_eq_emod_of_nonneg (by omega)]; exact hN
  have hN39 : N ≤ 39 := by omega
  clear hz hN hn
  go_enter Try.func16, Try.ntmps16
  go_wp2_with fail
  refine (awake13_any _).mono ?_
  rintro e w0 ⟨rfl, hB0⟩
  go_wp2_with fail
  refine (usual_any _ _).mono ?_
  rintro e w1 ⟨rfl, hB1⟩
  have hB2 : Below w.heap.size w w1 := hB0.trans (hB1.mono hB0.size)
  go_wp2_with fail
  refine (wnew_b w _ hB2 _ _ _ _ _ _ _ _ _ _ _ _).mono ?_
  rintro e w2 ⟨ba, ha, rfl, hA, -⟩
  go_wp2_with fail
  refine (usual_any _ _).mono ?_
  rintro e w3 ⟨rfl, hB3⟩
  go_wp2_with fail
  refine (wnew_b w2 _ hB3 _ _ _ _ _ _ _ _ _ _ _ _).mono ?_
  rintro e w4 ⟨bb, hb, rfl, hA2, -⟩
  have hT : LB w w4 ba ha bb hb ⟨true, true, false, 0, 0, 0, 0, 0⟩ := TB.to (TB.two hA hA2) rfl rfl
  clear hB0 hB1 hB2 hB3 hA hA2
  have i1 := inv_hold_b ⟨ba, 0, none⟩
  have i2 := inv_next_b ⟨ba, 0, none⟩
  have i3 := inv_answer_b ⟨ba, 0, none⟩
  have i4 := inv_take_b ⟨ba, 0, none⟩
  have j2 := inv_next_b ⟨bb, 0, none⟩
  have j3 := inv_answer_b ⟨bb, 0, none⟩
  have j4 := inv_take_b ⟨bb, 0, none⟩
  go_wp2_with fail
  go_loopw [9, 10, 11] (fun g p i wr => ∃ (z : LSt) (q : Nat), q ≤ 300 ∧ g = .int .i64 z.r ∧ p = .int .i64 z.P ∧ i = .int .i64 q ∧ LB w wr ba ha bb hb z ∧ LInv N z ∧ (60 ≤ q → lmeas N z ≤ 42 - (q - 60))) (fun _ _ i _ => 700 - (intOf i).toNat)
  case atStart => exact ⟨⟨true, true, false, 0, 0, 0, 0, 0⟩, 0, by omega, rfl, rfl, rfl, hT, ⟨Nat.le_refl _, Nat.le_refl _, Nat.le_refl _, Nat.le_refl _, Nat.zero_le _, hN39, Nat.zero_le _, .inl rfl⟩, fun h => by omega⟩
  case round =>
    clear hT
    obtain ⟨z, q, hq, rfl, rfl, rfl, hL, hI, hM⟩ := hrel
    by_cases hlt : q < 300
    · have hlt2 : (q : Int) < 300 := by omega
      have hI1 := hI.put
      go_upto_region 10 with fail
      go_cut [51] (fun v wx => v = .bool (decide (z.P < N ∧ z.P < z.p + 16)) ∧ LB w wx ba ha bb hb (lput N z))
      case first =>
        have hPN := hI.PN
        by_cases hp : z.P < N
        · have hp2 : (z.P : Int) < (N : Int) := by omega
          have hu : IntKind.u8.wrap (z.P : Int) = z.P := by rw [wrap8m]; omega
          go_wp2_with fail
          refine hL.hold.mono ?_
          rintro e w5 ⟨rfl, rfl⟩
          go_wp2_with fail
          have hL2 := hL.below ((Below.refl _ _).alloc (Nat.le_refl _) (.cells #[.int .u8 (z.P : Int), .int .u8 1, .int .u8 2] 5 (0, 0)))
          have hpt := hL2.put hI hp _ (Oct.new w5 (msg3 z.P) 5 (0, 0) 3)
          have hP1 : z.P < z.p + 16 → (lput N z).P = z.P + 1 := fun h => by unfold lput; rw [if_pos ⟨hp, h⟩]
          have hP2 : ¬ z.P < z.p + 16 → (lput N z).P = z.P := fun h => by unfold lput; rw [if_neg (fun hh => h hh.2)]
          generalize lput N z = z1 at *
          clear hL hL2
          by_cases hr : z.P < z.p + 16
          · rw [if_pos hr] at hpt
            refine hpt.mono ?_
            rintro e w6 ⟨rfl, k6, -⟩
            go_wp2
            go_meet
            exact ⟨by simp [hp, hr], k6⟩
          · rw [if_neg hr] at hpt
            refine hpt.mono ?_
            rintro e w6 ⟨rfl, k6, -⟩
            go_wp2
            go_meet
            exact ⟨by simp [hp, hr], k6⟩
        · have hp2 : ¬ (z.P : Int) < (N : Int) := by omega
          have hP2 : lput N z = z := by unfold lput; rw [if_neg (fun hh => hp hh.1)]
          go_wp2
          go_meet
          exact ⟨by simp [hp], by rw [hP2]; exact hL⟩
      case rest =>
        have hP0 : (lput N z).r = z.r := by unfold lput; split <;> rfl
        have hP1 : (lput N z).P = if z.P < N ∧ z.P < z.p + 16 then z.P + 1 else z.P := by unfold lput; split <;> rfl
        have hPb := hI.PN
        obtain ⟨h51, hL1⟩ := hcut
        go_wp2_with fail
        go_cut [10] (fun p wx => p = .int .i64 (lput N z).P ∧ wx = wc)
        case first =>
          subst h51
          by_cases hp : z.P < N ∧ z.P < z.p + 16
          · rw [if_pos hp] at hP1
            have hw2 : IntKind.i64.wrap ((z.P : Int) + 1) = ((lput N z).P : Int) := by rw [hP1, wrapH _ (by omega)]; omega
            have hdd : decide (z.P < N ∧ z.P < z.p + 16) = true := by simp [hp]
            generalize lput N z = z1 at *
            go_wp2
            go_meet
            exact ⟨by rw [hP1]; simp, rfl⟩
          · rw [if_neg hp] at hP1
            have hdd : decide (z.P < N ∧ z.P < z.p + 16) = false := by simp only [decide_eq_false_iff_not]; exact hp
            go_wp2
            go_meet
            exact ⟨by rw [hP1], rfl⟩
        obtain ⟨rfl, rfl⟩ := hcut
        clear h51
        have HZ1 := Lib.hid (rfl : lput N z = lput N z)
        obtain ⟨z1, hz1⟩ : ∃ z1, lput N z = z1 := ⟨_, rfl⟩
        have HI := Lib.hid hI
        have HM := Lib.hid hM
        have HE := Lib.hid hz1
        rw [hz1] at hI1 hL1 hP0 ⊢
        have n1 : (lnext z1).r = z1.r := by unfold lnext; split <;> rfl
        have n2 : (lnext z1).bib = z1.bib := by unfold lnext; split <;> rfl
        have n3 : (lnext z1).fib = z1.fib := by unfold lnext; split <;> rfl
        have n4 : (lnext z1).asked = z1.asked := by unfold lnext; split <;> rfl
        have n5 : (lnext z1).p = z1.p := by unfold lnext; split <;> rfl
        have n6 : (lnext z1).P = z1.P := by unfold lnext; split <;> rfl
        have hI2 := hI1.next
        have hI3 := hI1.take
        have HP := Lib.hid hP0
        have HNS := Lib.hid (And.intro n1 (And.intro n2 (And.intro n3 (And.intro n4 (And.intro n5 n6)))))
        clear hL hz1 HZ1 hI hM hP0 hP1
        have hna := hL1.nextA hI1
        obtain ⟨m, hmm⟩ : ∃ m, decide (z1.g < z1.P) = m := ⟨_, rfl⟩
        obtain ⟨kd, hkd⟩ : ∃ kd : Int, (if z1.g < z1.P then (2 : Int) else 0) = kd := ⟨_, rfl⟩
        have hkd2 : (if m = true then (2 : Int) else 0) = kd := by rw [← hmm, ← hkd]; simp
        rw [hkd, hmm] at hna
        go_wp2_with fail
        refine hna.mono ?_
        rintro e w5 ⟨x, iv, rfl, hx1, hx2, hx3, hiv, k2, -⟩
        clear hna hL1
        have hone := hiv.1
        have hR0 := Blk.new w5 unit0 69
        have hb5 : Below w5.heap.size w5 ((w5.alloc (.cells unit0.toArray 69)).setRow w5.heap.size #[.int .u8 127, .int .u8 (x : Int), .bool true, .bool z1.fib, .int .u8 kd, .int .u8 0, .bool false, iv]) := below_row ((Below.refl _ _).alloc (Nat.le_refl _) _) (Nat.le_refl _) _
        have hU := Blk.row hR0 [.int .u8 127, .int .u8 (x : Int), .bool true, .bool z1.fib, .int .u8 kd, .int .u8 0, .bool false, iv]
        have k3 := k2.below hb5
        have hiv3 := hiv.kp (KpB.below hb5)
        have hK := hR0
        unfold Blk at hK
        go_wp2_with (refine wpList_store_row rfl 69 (.tmp 12) (.tmp 55) rfl w5.heap.size #[.int .u8 127, .int .u8 (x : Int), .bool true, .bool z1.fib, .int .u8 kd, .int .u8 0, .bool false, iv] rfl rfl 69 _ hK (by kernel_rfl) rfl (by simp [Value.oneCell']; exact hone) ?_)
        clear hK hR0 hb5
        have hnb := k3.nextB
        rw [n1, n2] at hnb
        try go_wp2_with fail
        refine hnb.mono ?_
        rintro e w6 ⟨rfl, k4, kp4⟩
        have hU4 := kp4.2 _ _ 69 (by decide) (by decide) (by decide) hU
        have hiv4 := hiv3.kp kp4
        clear hnb kp4 hU hiv3 hiv k3 k2
        generalize w5.heap.size = bu at hU4
        have hb4 : Below w6.heap.size w6 (w6.alloc (.cells #[.int .u8 ((127 + (z1.r : Int)) % 128), .int .u8 127, .bool z1.bib, .bool true, .int .u8 0, .int .u8 0, .bool false, .slice none 0 0] 69)) := (Below.refl _ _).alloc (Nat.le_refl _) _
        have hV5 := Blk.new w6 [.int .u8 ((127 + (z1.r : Int)) % 128), .int .u8 127, .bool z1.bib, .bool true, .int .u8 0, .int .u8 0, .bool false, .slice none 0 0] 69
        have hU5 := hU4.below hb4
        have k5 := k4.below hb4
        have hiv5 := hiv4.kp (KpB.below hb4)
        clear hU4 k4 hiv4 hb4 n1 n2 n3 n4 n5 n6
        go_upto_region 15 with fail
        generalize w6.heap.size = bv at *
        generalize w6.alloc (.cells #[.int .u8 ((127 + (z1.r : Int)) % 128), .int .u8 127, .bool z1.bib, .bool true, .int .u8 0, .int .u8 0, .bool false, .slice none 0 0] 69) = W5 at *
        go_cut [61] (fun v wx => v = .bool (decide ((q : Int) < (len : Int))) ∧ wx = W5)
        case first =>
          go_wp2
          go_meet
          exact ⟨by simp, rfl⟩
        obtain ⟨h61, rfl⟩ := hcut
        have hbel := k5.bel
        go_wp2_with fail
        go_cut [14] (fun l wx => ∃ L : Int, l = .int .u8 L ∧ 0 ≤ L ∧ L ≤ 3 ∧ (60 ≤ q → L = 0) ∧ wx = wc)
        case first =>
          by_cases hql : q < len
          · obtain ⟨xa, rfl, hxb, hxc⟩ := HZ.out.2.2 q hql
            have hxc2 : wc.cell? (xa.add q) = some (.int .u8 (zs.getD q 0)) := by rw [← hxc]; exact hbel.cell (by unfold Addr.add; split <;> exact hxb)
            have hzb := bounds_u8 (HZ.out.wf q hql)
            generalize zs.getD q 0 = y at hxc2 hzb
            have hq1 : y.tmod 4 = y % 4 := Int.tmod_eq_emod_of_nonneg (by omega)
            have hq3 : IntKind.u8.wrap (y % 4) = y % 4 := by rw [wrap8m]; omega
            have hdd : decide ((q : Int) < (len : Int)) = true := by simp [hql]
            have hll : (q : Int) < (len : Int) := by omega
            subst h61
            clear hV5 hU5 k5 hiv5 hI1 hI2 hI3
            go_wp2
            go_meet
            exact ⟨_, rfl, by omega, by omega, fun h => by omega, rfl⟩
          · have hdd : decide ((q : Int) < (len : Int)) = false := by simp; omega
            subst h61
            clear hV5 hU5 k5 hiv5 hI1 hI2 hI3
            go_wp2
            go_meet
            exact ⟨0, rfl, by omega, by omega, fun h => rfl, rfl⟩
        obtain ⟨L, rfl, hL1, hL2, hL3, rfl⟩ := hcut
        clear h61
        go_upto_region 17 with fail
        go_cut [69] (fun v wx => v = .bool (decide (L % 2 = 0)) ∧ wx = wc)
        case first =>
          have hq1 : L.tmod 2 = L % 2 := Int.tmod_eq_emod_of_nonneg (by omega)
          have hq3 : IntKind.u8.wrap (L % 2) = L % 2 := by rw [wrap8m]; omega
          clear hV5 hU5 k5 hiv5 hI1 hI2 hI3
          go_wp2
          go_meet
          exact ⟨by first | rfl | (congr 1; by_cases h : L % 2 = 0 <;> simp [h]), rfl⟩
        obtain ⟨h69, rfl⟩ := hcut
        obtain ⟨n1, n2, n3, n4, n5, n6⟩ := HNS.out
        have hr3 : (ltake z1.fib z1.g m (lnext z1)).r = if (decide (z1.fib = (lnext z1).bib) && decide (z1.g = (lnext z1).r) && m) = true then z1.r + 1 else z1.r := by
          rw [ltake_r, n1]
        go_wp2_with fail
        go_cut [9] (fun g wx => ∃ z3 : LSt, z3 = (if L % 2 = 0 then ltake z1.fib z1.g m (lnext z1) else lnext z1) ∧ g = .int .i64 z3.r ∧ LB w wx ba ha bb hb z3 ∧ Blk wx bv [.int .u8 ((127 + (z1.r : Int)) % 128), .int .u8 127, .bool z1.bib, .bool true, .int .u8 0, .int .u8 0, .bool false, .slice none 0 0] 69)
        case first =>
          by_cases hL0 : L % 2 = 0
          · have hdd : decide (L % 2 = 0) = true := by simp [hL0]
            rw [hdd] at h69
            subst h69
            have c0 := hU5.cell 0 rfl
            have c1 := hU5.cell 1 rfl
            have c2 := hU5.cell 2 rfl
            have c3 := hU5.cell 3 rfl
            have c4 := hU5.cell 4 rfl
            have c5 := hU5.cell 5 rfl
            have c6 := hU5.cell 6 rfl
            have c7 := hU5.cell 7 rfl
            have hab := k5.answerB x kd 0 z1.fib false iv hone
            have hge := hI1.rg
            have hgq := hI1.gq
            have hqP := hI1.qP
            have hPN := hI1.PN
            have hN4 := hI1.N40
            have hak := hI1.ask
            have hxn : (x : Int) = if m = true then (z1.g : Int) else (127 + (z1.g : Int)) % 128 := by
              by_cases h : z1.g < z1.P
              · rw [if_pos (by rw [← hmm]; simp [h]), hx2 h]
              · rw [if_neg (by rw [← hmm]; simp [h]), hx3 h]
            have HR := Lib.hid hr3
            have HH := Lib.hid hL0
            have HX := Lib.hid hxn
            clear n1 n2 n3 n4 n5 n6 hI1 hI2 hI3 hr3 hL0 hdd hmm hx2 hx3 hxn
            go_wp2_with fail
            refine hab.mono ?_
            rintro e w9 ⟨rfl, k6, kp6⟩
            have hU6 := kp6.2 _ _ 69 (by decide) (by decide) (by decide) hU5
            have hV6 := kp6.2 _ _ 69 (by decide) (by decide) (by decide) hV5
            have hiv6 := hiv5.kp kp6
            clear c0 c1 c2 c3 c4 c5 c6 c7 hab kp6 k5 hU5 hV5 hiv5
            have c0 := hU6.cell 0 rfl
            have c1 := hU6.cell 1 rfl
            have c2 := hU6.cell 2 rfl
            have c3 := hU6.cell 3 rfl
            have c4 := hU6.cell 4 rfl
            have c5 := hU6.cell 5 rfl
            have c6 := hU6.cell 6 rfl
            have c7 := hU6.cell 7 rfl
            have htb := k6.takeB z1.fib z1.g m x (by rw [HNS.out.1]; omega) (by omega) (by rw [HNS.out.1]; omega) HX.out (by rw [HNS.out.2.1, HNS.out.2.2.2.1]; exact hak) iv hiv6
            rw [hkd2] at htb
            go_wp2_with fail
            refine htb.mono ?_
            rintro e w10 ⟨sl, rfl, hsl, k7, kp7⟩
            have hV7 := kp7.2 _ _ 69 (by decide) (by decide) (by decide) hV6
            clear c0 c1 c2 c3 c4 c5 c6 c7 htb kp7 k6 hU6 hV6 hiv6
            have hr3 := HR.out
            have hgr : (decide (z1.fib = (lnext z1).bib) && decide (z1.g = (lnext z1).r) && m) = true → z1.g = z1.r := fun h => by
              simp only [Bool.and_eq_true, decide_eq_true_eq] at h
              rw [← HNS.out.1]
              exact h.1.2
            obtain ⟨ok, hok⟩ : ∃ ok, (decide (z1.fib = (lnext z1).bib) && decide (z1.g = (lnext z1).r) && m) = ok := ⟨_, rfl⟩
            rw [hok] at hsl hr3 hgr ⊢
            have hzr := HP.out
            cases ok
            · rw [if_neg (by decide)] at hr3
              have e1 : (z.r : Int) = ((ltake z1.fib z1.g m (lnext z1)).r : Int) := by omega
              generalize hz3 : ltake z1.fib z1.g m (lnext z1) = z3 at *
              clear hr3 hgr hok hzr hsl
              have HE1 := Lib.hid e1
              clear e1
              go_wp2
              go_meet
              exact ⟨z3, by rw [if_pos HH.out], by rw [HE1.out], k7, hV7⟩
            · obtain ⟨g8, c8, rfl, hcell⟩ := hsl rfl
              rw [if_pos rfl] at hr3
              have hg2 := hgr rfl
              have hcv : IntKind.i64.wrap (z1.g : Int) = z1.g := wrapH _ (by omega)
              have hne : ((z1.g : Int) != (z.r : Int)) = false := by simp; omega
              have hwr : IntKind.i64.wrap ((z.r : Int) + 1) = ((ltake z1.fib z1.g m (lnext z1)).r : Int) := by rw [wrapH _ (by omega)]; omega
              generalize hz3 : ltake z1.fib z1.g m (lnext z1) = z3 at *
              clear hr3 hgr hok hzr hsl hg2
              go_wp2
              go_meet
              exact ⟨z3, by rw [if_pos HH.out], rfl, k7, hV7⟩
          · have hdd : decide (L % 2 = 0) = false := by simp [hL0]
            rw [hdd] at h69
            subst h69
            have HH := Lib.hid hL0
            have HE1 := Lib.hid n1
            clear n1 n2 n3 n4 n5 n6 hI1 hI2 hI3 hr3 hL0 hdd hmm hx2 hx3
            go_wp2
            go_meet
            exact ⟨lnext z1, by rw [if_neg HH.out], by rw [HE1.out, HP.out], k5, hV5⟩
        case rest =>
          obtain ⟨z3, hz3, rfl, k8, hV8⟩ := hcut
          have hI3z : LInv N z3 := by
            rw [hz3]
            split
            · rw [← hmm]; exact hI3
            · exact hI2
          have h3r : z1.r ≤ z3.r := by
            rw [hz3]
            split
            · rw [hr3]; split <;> omega
            · omega
          have h3p : z3.p = z1.p ∧ z3.P = z1.P := by
            rw [hz3]
            split
            · rw [(ltake_p _ _ _ _).1, (ltake_p _ _ _ _).2]; exact ⟨n5, n6⟩
            · exact ⟨n5, n6⟩
          have hro : lround N (decide (L % 2 = 0)) (decide (L < 2)) z = if L < 2 then lans z1.r z1.bib z3 else z3 := by
            unfold lround
            simp only [HE.out, hmm, decide_eq_true_eq]
            rw [← hz3]
          have hme : 60 ≤ q + 1 → lmeas N (lround N (decide (L % 2 = 0)) (decide (L < 2)) z) ≤ 42 - (q + 1 - 60) := fun h => by
            by_cases h60 : 60 ≤ q
            · have e0 := hL3 h60
              subst e0
              have h1 := HM.out h60
              have h2 := lmeas_round HI.out
              show lmeas N (lround N true true z) ≤ _
              omega
            · have := lmeas_bd (HI.out.round (decide (L % 2 = 0)) (decide (L < 2)))
              omega
          have hIr := HI.out.round (decide (L % 2 = 0)) (decide (L < 2))
          generalize lround N (decide (L % 2 = 0)) (decide (L < 2)) z = z4 at *
          have hpr := hI1.pr
          have g1 := hI3z.pr
          have g2 := hI3z.rg
          have g3 := hI3z.gq
          have g4 := hI3z.qP
          have g5 := hI3z.PN
          clear hz3 n1 n2 n3 n4 n5 n6 hr3 hI1 hI2 hI3 hI3z hmm hkd2 hx2 hx3 h69 k5 hU5 hV5 hiv5
          go_upto_region 24 with fail
          have hw3 : IntKind.i64.wrap ((q : Int) + 1) = ((q + 1 : Nat) : Int) := by rw [wrapH _ (by omega)]; omega
          by_cases hL9 : L < 2
          · rw [if_pos hL9] at hro
            have hlr : (lans z1.r z1.bib z3).r = z3.r ∧ (lans z1.r z1.bib z3).P = z3.P := ⟨rfl, rfl⟩
            rw [← hro] at hlr
            have c0 := hV8.cell 0 rfl
            have c1 := hV8.cell 1 rfl
            have c2 := hV8.cell 2 rfl
            have c3 := hV8.cell 3 rfl
            have c4 := hV8.cell 4 rfl
            have c5 := hV8.cell 5 rfl
            have c6 := hV8.cell 6 rfl
            have c7 := hV8.cell 7 rfl
            have haa := k8.answerA z1.r (by omega) (by omega) (by omega) (by omega) (by omega) 127 0 0 z1.bib true false (.slice none 0 0) rfl
            rw [← hro] at haa
            clear hro
            go_wp2_with fail
            refine haa.mono ?_
            rintro e w9 ⟨rfl, k9, kp9⟩
            have hV9 := kp9.2 _ _ 69 (by decide) (by decide) (by decide) hV8
            clear c0 c1 c2 c3 c4 c5 c6 c7 haa kp9 k8 hV8
            have c0 := hV9.cell 0 rfl
            have c1 := hV9.cell 1 rfl
            have c2 := hV9.cell 2 rfl
            have c3 := hV9.cell 3 rfl
            have c4 := hV9.cell 4 rfl
            have c5 := hV9.cell 5 rfl
            have c6 := hV9.cell 6 rfl
            have c7 := hV9.cell 7 rfl
            have hta := k9.takeA ((127 + (z1.r : Int)) % 128) 0 0 z1.bib false (.slice none 0 0) rfl
            go_wp2_with fail
            refine hta.mono ?_
            rintro e w10 ⟨rfl, k10, -⟩
            clear c0 c1 c2 c3 c4 c5 c6 c7 hta k9 hV9
            have HF := Lib.hid (And.intro hlr (And.intro hIr (And.intro hme h3p.2)))
            clear hlr hIr hme h3p
            go_wp2
            exact ⟨⟨z4, q + 1, by omega, by rw [HF.out.1.1], by rw [HF.out.1.2, HF.out.2.2.2], rfl, k10, HF.out.2.1, HF.out.2.2.1⟩, by simp [intOf]; omega⟩
          · rw [if_neg hL9] at hro
            subst hro
            have HF := Lib.hid (And.intro hIr (And.intro hme h3p.2))
            clear hIr hme h3p
            go_wp2
            exact ⟨⟨z4, q + 1, by omega, rfl, by rw [HF.out.2.2], rfl, k8, HF.out.1, HF.out.2.1⟩, by simp [intOf]; omega⟩
    · have hlt2 : ¬ (q : Int) < 300 := by omega
      have hq3 : q = 300 := by omega
      have hz := lmeas_done hI (by have := hM (by omega); omega)
      have e1 : (z.r : Int) = (N : Int) := by rw [hz.1]
      have e2 : (z.P : Int) = (N : Int) := by rw [hz.2]
      rw [e1, e2]
      clear hI hM hz
      have hbel := hL.bel
      go_wp2
      go_ret
      exact ⟨rfl, hbel⟩
end Go.Proofs.Ytadheikcgdhcdaa
