/-
  The walks of AlignTries and AlignStops.
-/
import Derived.Test.YtpalpoecakijnaaAlign4
namespace Go.Proofs.Ytpalpoecakijnaa
open Go.RowKit
set_option linter.unusedVariables false
set_option linter.unusedSimpArgs false

/-- While it is proved: a unit that is right turns nothing. -/
theorem aUnit_right (T : List Int) (s : AS) (h : s.st = 3) (hn : 0 ≤ s.pn ∧ s.pn < pMost s.ph) : aUnit T false s = s ∧ aUnitWhy false s = 0 := by
  have e : pAnew s.ph s.pn false = false := by unfold pAnew pN; simp; omega
  constructor
  · unfold aUnit; rw [if_pos h, e]; simp [pN]
  · unfold aUnitWhy; rw [e]; simp

/-- One that isn't: counted, given up, or too often so. -/
theorem aUnit_count (T : List Int) (s : AS) (h : s.st = 3) (hn : s.pn + 1 < pMost s.ph) : aUnit T true s = { s with pn := s.pn + 1 } ∧ aUnitWhy true s = 0 := by
  have e : pAnew s.ph s.pn true = false := by unfold pAnew pN; simp; omega
  constructor
  · unfold aUnit; rw [if_pos h, e]; simp [pN]
  · unfold aUnitWhy; rw [e]; simp
theorem aUnit_anew (T : List Int) (s : AS) (h : s.st = 3) (hn : pMost s.ph ≤ s.pn + 1) (ht : s.pt + 1 < 5) : aUnit T true s = aProve T { s with pn := 0, pt := s.pt + 1 } ∧ aUnitWhy true s = 0 := by
  have e : pAnew s.ph s.pn true = true := by unfold pAnew pN; simp; omega
  constructor
  · unfold aUnit; rw [if_pos h, e]; simp; omega
  · unfold aUnitWhy; rw [e]; simp; omega
theorem aUnit_over (T : List Int) (s : AS) (h : s.st = 3) (hn : pMost s.ph ≤ s.pn + 1) (ht : 5 ≤ s.pt + 1) : aUnitWhy true s = 5 := by
  have e : pAnew s.ph s.pn true = true := by unfold pAnew pN; simp; omega
  unfold aUnitWhy; rw [e]; simp; omega

theorem atries_same (j c : Nat) (S : List Value) (T : List Int) (s : AS) (w : World) (h : AC w j c S T s) :
    Calls Try.prog 39 #[.pointer (some ⟨j, 0, none⟩)] w fun e w' => e = .returned (.int .i64 s.pt) ∧ w' = w :=
  (atries_any j c S T s w h).mono fun _ _ ⟨h1, h2⟩ => ⟨h1, h2.symm⟩

set_option maxHeartbeats 4000000 in
theorem alignTries_row (hu : Bool) (ri : Int) (w : World) (hr : 0 ≤ ri ∧ ri ≤ 255) : Calls Try.prog 11 #[.bool hu, .int .u8 ri] w fun e w' => e = .returned (.bool true) ∧ Below w.heap.size w w' := by
  go_enter Try.func11, Try.ntmps11
  go_wp2_with fail
  refine (awake14_any _).mono ?_
  rintro e w0 ⟨rfl, hB⟩
  have hs0 := hB.size
  go_wp2_with fail
  have hC := Ck.new w0
  replace hB := hB.alloc hs0 (.cells #[.int .i64 0, .int .i64 0, .int .i64 0, .int .i64 0, .int .i64 0, .int .i64 0, .int .i64 0, .int .i64 0] 25)
  refine (usual_any _ _).mono ?_
  rintro e w1 ⟨rfl, hb⟩
  replace hC := hC.below hb
  have hs1 := hb.size
  simp only [World.size_alloc] at hs1 hb
  replace hB := hB.trans (hb.mono (by omega))
  clear hb
  go_wp2_with fail
  refine (anew_any _ _ _ _ _ _ _ _ _ _ _ _ _ _ _ _ hC).mono ?_
  rintro e w2 ⟨j, rfl, hj, hJ, hb⟩
  replace hB := hB.trans (hb.mono (by omega))
  have hs2 := hB.size
  clear hC hb
  go_wp2_with fail
  refine (ahurryon_any j _ _ _ _ _ _ hJ).mono ?_
  rintro e w3 ⟨rfl, hJ3, hF⟩
  replace hB := hB.trans (hF.two_below (by omega) hs0 hB.size)
  clear hJ hF
  go_wp2_with fail
  refine (abegin_any j _ _ _ _ _ hJ3).mono ?_
  rintro e w4 ⟨rfl, hJ4, hF⟩
  replace hB := hB.trans (hF.two_below (by omega) hs0 hB.size)
  clear hJ3 hF
  go_wp2_with fail
  refine (aheard_any j _ _ _ _ _ _ hJ4 (by cases hu <;> decide) (by decide)).mono ?_
  rintro e w5 ⟨rfl, hJ5, hF⟩
  replace hB := hB.trans (hF.two_below (by omega) hs0 hB.size)
  clear hJ4 hF
  go_wp2_with fail
  refine (aheard_any j _ _ _ _ _ _ hJ5 (by cases hu <;> decide) (by decide)).mono ?_
  rintro e w6 ⟨rfl, hJ6, hF⟩
  replace hB := hB.trans (hF.two_below (by omega) hs0 hB.size)
  clear hJ5 hF
  obtain ⟨s, hs⟩ : ∃ s, aHeard uT 1 (aHeard uT 0 (aBegin uT (aHurry uT hu ⟨0, false, false, false, 0, 0, [0, 0, 0, 0, 0, 0, 0, 0]⟩))) = s := ⟨_, rfl⟩
  have hst : s.st = 3 ∧ s.own = hu ∧ s.their = false ∧ s.ph = hu ∧ s.pn = 0 ∧ s.pt = 0 := by rw [← hs]; cases hu <;> exact ⟨rfl, rfl, rfl, rfl, rfl, rfl⟩
  rw [hs] at hJ6
  clear hs
  obtain ⟨M, hM⟩ : ∃ M : Int, M = pMost hu := ⟨_, rfl⟩
  have hM2 : M = 1 ∨ M = 4 := by rw [hM]; cases hu; right; rfl; left; rfl
  clear hM hM2 M
  cases hu
  · have hms : pMost false = 4 := rfl
    go_wp2_with fail
    go_loopw [8, 9, 10, 11] (fun n i _ _ wr => ∃ (k : Nat) (s : AS), n = .int .i64 k ∧ i = .int .i64 k ∧ AC wr j w0.heap.size uS uT s ∧ (s.st = 3 ∧ s.own = false ∧ s.their = false ∧ s.ph = false) ∧ (0 ≤ s.pn ∧ s.pn < 4 ∧ 0 ≤ s.pt ∧ s.pt ≤ 4) ∧ Hid (s.pt * 4 + s.pn = k) ∧ Below w.heap.size w wr) (fun _ i _ _ _ => 100 - (intOf i).toNat)
    case atStart => exact ⟨0, s, rfl, rfl, hJ6, ⟨hst.1, hst.2.1, hst.2.2.1, hst.2.2.2.1⟩, ⟨by omega, by omega, by omega, by omega⟩, by show _ = _; rw [hst.2.2.2.2.1, hst.2.2.2.2.2]; simp, hB⟩
    case round =>
      clear hst hJ6 hB s
      obtain ⟨k, s, rfl, rfl, hA, ⟨q1, q2, q3, q4⟩, ⟨b1, b2, b3, b4⟩, hk, hB⟩ := hrel
      obtain ⟨wo, rfl⟩ : ∃ wo : World, wo = wr := ⟨_, rfl⟩
      have hsw := hB.size
      have hkb : (k : Int) < 20 := by have := hk.out; omega
      have h100 : decide ((k : Int) < 100) = true := by simp; omega
      have hpm : pMost s.ph = 4 := by rw [q4]; rfl
      have Hpm := Lib.hid hpm
      have Q1 := Lib.hid q1
      have Q2 := Lib.hid q2
      have Q3 := Lib.hid q3
      have Q4 := Lib.hid q4
      clear hpm q1 q2 q3 q4
      go_wp2_with fail
      go_loopw [10] (fun q wr => ∃ m : Nat, m ≤ 5 ∧ q = .int .i64 m ∧ AC wr j w0.heap.size uS uT s ∧ Fr (two j w0.heap.size) wo wr) (fun q _ => 5 - (intOf q).toNat)
      case atStart => exact ⟨0, by omega, rfl, hA, Fr.refl _ _⟩
      case round =>
        obtain ⟨m, hm, rfl, hAm, hFm⟩ := hrel
        by_cases hlt : (m : Int) < ri % 5
        · go_wp2_with fail
          refine (aunit_any j _ _ _ _ _ _ hAm (by omega) (by omega)).mono ?_
          rintro e w7 ⟨rfl, hA7, hF7⟩
          obtain ⟨u1, u2⟩ := aUnit_right uT s Q1.out (by rw [Hpm.out]; omega)
          rw [u1] at hA7
          rw [u2]
          clear u1 u2
          go_wp2
          exact ⟨⟨m + 1, by omega, by go_num, hA7, hFm.then_ hF7⟩, by simp [intOf]; omega⟩
        · have hBm := hB.trans (hFm.two_below (by omega) (by omega) hsw)
          have hsm := hBm.size
          go_wp2_with fail
          refine (aunit_any j _ _ _ _ _ _ hAm (by omega) (by omega)).mono ?_
          rintro e w7 ⟨rfl, hA7, hF7⟩
          have hB7 := hBm.trans (hF7.two_below (by omega) (by omega) hsm)
          by_cases hc : s.pn + 1 < 4
          · obtain ⟨u1, u2⟩ := aUnit_count uT s Q1.out (by rw [Hpm.out]; exact hc)
            rw [u1] at hA7
            rw [u2]
            clear u1 u2
            have e1 : (s.pt == (((k : Int) + 1) / 4)) = true := by have := hk.out; rw [beq_iff_eq]; omega
            have e2 : (s.pt != (((k : Int) + 1) / 4)) = false := by have := hk.out; rw [bne_eq_false_iff_eq]; omega
            have h14 : w7.cell? ⟨j, 14, none⟩ = some (.int .u8 3) := by rw [hA7.st]; simp [Q1.out]
            go_upto_region 25 with fail
            go_quiet ((go_at_call 39; exact Calls.quiet_of_same (atries_same j _ uS uT _ _ (hA7.drewN _))))
            go_wp2
            refine ⟨⟨k + 1, _, by go_num, by go_num, hA7.drewN _, ⟨Q1.out, Q2.out, Q3.out, Q4.out⟩, ⟨by simp only; omega, by simp only; omega, b3, b4⟩, by show _ = _; have := hk.out; simp only; omega, below_drewN hB7 _⟩, by simp [intOf]; omega⟩
          · by_cases ht : s.pt + 1 < 5
            · obtain ⟨u1, u2⟩ := aUnit_anew uT s Q1.out (by rw [Hpm.out]; omega) ht
              rw [u1] at hA7
              rw [u2]
              clear u1 u2
              have e1 : (s.pt + 1 == (((k : Int) + 1) / 4)) = true := by have := hk.out; rw [beq_iff_eq]; omega
              have e2 : (s.pt + 1 != (((k : Int) + 1) / 4)) = false := by have := hk.out; rw [bne_eq_false_iff_eq]; omega
              have h14 : w7.cell? ⟨j, 14, none⟩ = some (.int .u8 3) := hA7.st
              have hq : ∀ n, Calls Try.prog 39 #[.pointer (some ⟨j, 0, none⟩)] (w7.drewN n) fun e w' => e = .returned (.int .i64 (s.pt + 1)) ∧ w' = w7.drewN n := fun n => atries_same j _ uS uT _ _ (hA7.drewN n)
              go_upto_region 25 with fail
              go_quiet ((go_at_call 39; exact Calls.quiet_of_same (hq _)))
              go_wp2
              refine ⟨⟨k + 1, _, by go_num, by go_num, hA7.drewN _, ⟨rfl, Q2.out, Q3.out, by simp [aProve, Q2.out, Q3.out]⟩, ⟨by simp [aProve], by simp [aProve], by simp only [aProve]; omega, by simp only [aProve]; omega⟩, by show _ = _; have := hk.out; simp only [aProve]; omega, below_drewN hB7 _⟩, by simp [intOf]; omega⟩
            · have u2 := aUnit_over uT s Q1.out (by rw [Hpm.out]; omega) (by omega)
              rw [u2]
              clear u2
              have e1 : ((k : Int) + 1 == 5 * 4) = true := by have := hk.out; rw [beq_iff_eq]; omega
              have e2 : ((k : Int) + 1 == 20) = true := by have := hk.out; rw [beq_iff_eq]; omega
              go_wp2
              go_ret
              exact ⟨rfl, hB7⟩
  · have hms : pMost true = 1 := rfl
    go_wp2_with fail
    go_loopw [8, 9, 10, 11] (fun n i _ _ wr => ∃ (k : Nat) (s : AS), n = .int .i64 k ∧ i = .int .i64 k ∧ AC wr j w0.heap.size uS uT s ∧ (s.st = 3 ∧ s.own = true ∧ s.their = false ∧ s.ph = true) ∧ (0 ≤ s.pn ∧ s.pn < 1 ∧ 0 ≤ s.pt ∧ s.pt ≤ 4) ∧ Hid (s.pt * 1 + s.pn = k) ∧ Below w.heap.size w wr) (fun _ i _ _ _ => 100 - (intOf i).toNat)
    case atStart => exact ⟨0, s, rfl, rfl, hJ6, ⟨hst.1, hst.2.1, hst.2.2.1, hst.2.2.2.1⟩, ⟨by omega, by omega, by omega, by omega⟩, by show _ = _; rw [hst.2.2.2.2.1, hst.2.2.2.2.2]; simp, hB⟩
    case round =>
      clear hst hJ6 hB s
      obtain ⟨k, s, rfl, rfl, hA, ⟨q1, q2, q3, q4⟩, ⟨b1, b2, b3, b4⟩, hk, hB⟩ := hrel
      obtain ⟨wo, rfl⟩ : ∃ wo : World, wo = wr := ⟨_, rfl⟩
      have hsw := hB.size
      have hkb : (k : Int) < 20 := by have := hk.out; omega
      have h100 : decide ((k : Int) < 100) = true := by simp; omega
      have hpm : pMost s.ph = 1 := by rw [q4]; rfl
      have Hpm := Lib.hid hpm
      have Q1 := Lib.hid q1
      have Q2 := Lib.hid q2
      have Q3 := Lib.hid q3
      have Q4 := Lib.hid q4
      clear hpm q1 q2 q3 q4
      go_wp2_with fail
      go_loopw [10] (fun q wr => ∃ m : Nat, m ≤ 5 ∧ q = .int .i64 m ∧ AC wr j w0.heap.size uS uT s ∧ Fr (two j w0.heap.size) wo wr) (fun q _ => 5 - (intOf q).toNat)
      case atStart => exact ⟨0, by omega, rfl, hA, Fr.refl _ _⟩
      case round =>
        obtain ⟨m, hm, rfl, hAm, hFm⟩ := hrel
        by_cases hlt : (m : Int) < ri % 5
        · go_wp2_with fail
          refine (aunit_any j _ _ _ _ _ _ hAm (by omega) (by omega)).mono ?_
          rintro e w7 ⟨rfl, hA7, hF7⟩
          obtain ⟨u1, u2⟩ := aUnit_right uT s Q1.out (by rw [Hpm.out]; omega)
          rw [u1] at hA7
          rw [u2]
          clear u1 u2
          go_wp2
          exact ⟨⟨m + 1, by omega, by go_num, hA7, hFm.then_ hF7⟩, by simp [intOf]; omega⟩
        · have hBm := hB.trans (hFm.two_below (by omega) (by omega) hsw)
          have hsm := hBm.size
          go_wp2_with fail
          refine (aunit_any j _ _ _ _ _ _ hAm (by omega) (by omega)).mono ?_
          rintro e w7 ⟨rfl, hA7, hF7⟩
          have hB7 := hBm.trans (hF7.two_below (by omega) (by omega) hsm)
          by_cases hc : s.pn + 1 < 1
          · exfalso; omega
          · by_cases ht : s.pt + 1 < 5
            · obtain ⟨u1, u2⟩ := aUnit_anew uT s Q1.out (by rw [Hpm.out]; omega) ht
              rw [u1] at hA7
              rw [u2]
              clear u1 u2
              have e1 : (s.pt + 1 == ((k : Int) + 1)) = true := by have := hk.out; rw [beq_iff_eq]; omega
              have e2 : (s.pt + 1 != ((k : Int) + 1)) = false := by have := hk.out; rw [bne_eq_false_iff_eq]; omega
              have h14 : w7.cell? ⟨j, 14, none⟩ = some (.int .u8 3) := hA7.st
              have hq : ∀ n, Calls Try.prog 39 #[.pointer (some ⟨j, 0, none⟩)] (w7.drewN n) fun e w' => e = .returned (.int .i64 (s.pt + 1)) ∧ w' = w7.drewN n := fun n => atries_same j _ uS uT _ _ (hA7.drewN n)
              go_upto_region 25 with fail
              go_quiet ((go_at_call 39; exact Calls.quiet_of_same (hq _)))
              go_wp2
              refine ⟨⟨k + 1, _, by go_num, by go_num, hA7.drewN _, ⟨rfl, Q2.out, Q3.out, by simp [aProve, Q2.out, Q3.out]⟩, ⟨by simp [aProve], by simp [aProve], by simp only [aProve]; omega, by simp only [aProve]; omega⟩, by show _ = _; have := hk.out; simp only [aProve]; omega, below_drewN hB7 _⟩, by simp [intOf]; omega⟩
            · have u2 := aUnit_over uT s Q1.out (by rw [Hpm.out]; omega) (by omega)
              rw [u2]
              clear u2
              have e1 : ((k : Int) + 1 == 5 * 1) = true := by have := hk.out; rw [beq_iff_eq]; omega
              have e2 : ((k : Int) + 1 == 5) = true := by have := hk.out; rw [beq_iff_eq]; omega
              go_wp2
              go_ret
              exact ⟨rfl, hB7⟩
end Go.Proofs.Ytpalpoecakijnaa
