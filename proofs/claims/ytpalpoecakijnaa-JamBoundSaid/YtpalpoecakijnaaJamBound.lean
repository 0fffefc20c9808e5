/-
  The walk of JamBound: however often the other side says that it is busy, it is given up when T6 is over.
-/
import Derived.Test.YtpalpoecakijnaaJamTells
namespace Go.Proofs.Ytpalpoecakijnaa
open Go.RowKit
set_option linter.unusedVariables false
set_option linter.unusedSimpArgs false

/-- The other side is busy: x ticks are left of T6, y of T7. -/
def jb (x y : Int) : JS := ⟨false, true, false, [0, 0, 0, 0, 0, 0, x, y]⟩

theorem jb_first (P : Int) (h1 : 1 ≤ P) (h2 : P ≤ 1000) : jHeard [600, 12000, 8000, 4000, 1200, 5, P, 9999] true ⟨false, false, false, [0, 0, 0, 0, 0, 0, 0, 0]⟩ = jb P 9999 := by
  have hs : sOk 6 P = true := (sOk_iff 6 P).2 ⟨by omega, by omega, by omega⟩
  have hs7 : sOk 7 9999 = true := by decide
  simp [jHeard, jWait, jb, startL, hs, hs7]
theorem jb_again (P x y : Int) : jHeard [600, 12000, 8000, 4000, 1200, 5, P, 9999] true (jb x y) = jb x 9999 := by
  have hs7 : sOk 7 9999 = true := by decide
  simp [jHeard, jWait, jb, startL, hs7]
theorem jb_outs (x y : Int) (hx : 1 ≤ x) (hy : 2 ≤ y) : tickO (jb x y).l 8 = if x = 1 then [6] else [] := by
  have e : (y == 1) = false := by simp; omega
  by_cases h : x = 1
  · subst h; simp [jb, tickO, List.range_succ, List.filter, e]
  · have : (x == 1) = false := by simp [h]
    simp [jb, tickO, List.range_succ, List.filter, this, h, e]
theorem jb_tick (x y : Int) (hx : 1 ≤ x) (hy : 2 ≤ y) : ({ jb x y with l := tickL (jb x y).l } : JS) = jb (x - 1) (y - 1) := by
  have h1 : 0 < x := by omega
  have h2 : 0 < y := by omega
  simp [jb, tickL, dec1, h1, h2]

set_option maxHeartbeats 2000000 in
set_option maxRecDepth 100000 in
theorem jamBound_row (ev t6 : Int) (w : World) (he : 0 ≤ ev ∧ ev ≤ 255) (h6 : 0 ≤ t6 ∧ t6 ≤ 255) : Calls Try.prog 7 #[.int .u8 ev, .int .u8 t6] w fun e w' => e = .returned (.bool true) ∧ Below w.heap.size w w' := by
  go_enter Try.func7, Try.ntmps7
  go_wp2_with fail
  refine (awake16_any _).mono ?_
  rintro e w0 ⟨rfl, hB⟩
  have hs0 := hB.size
  go_wp2_with fail
  refine (usual_any _ _).mono ?_
  rintro e w1 ⟨rfl, hb⟩
  have hs1 := hb.size
  replace hB := hB.trans (hb.mono hs0)
  clear hb
  go_wp2_with fail
  obtain ⟨P, hP⟩ : ∃ P, 10 + t6 % 50 = P := ⟨_, rfl⟩
  have hP1 : 10 ≤ P ∧ P ≤ 59 := by omega
  rw [hP]
  clear hP
  have hS := (Blk.new w1 [.bool false, .int .i64 8, .int .i64 300, .int .i64 16, .int .i64 600, .int .i64 600, .int .i64 12000, .int .i64 8000, .int .i64 4000, .int .i64 1200, .int .i64 5, .int .i64 P, .int .i64 9999] 34).alloc (.cells #[.int .i64 0, .int .i64 0, .int .i64 0, .int .i64 0, .int .i64 0, .int .i64 0, .int .i64 0, .int .i64 0] 25)
  have hC := Ck.new (w1.alloc (.cells #[.bool false, .int .i64 8, .int .i64 300, .int .i64 16, .int .i64 600, .int .i64 600, .int .i64 12000, .int .i64 8000, .int .i64 4000, .int .i64 1200, .int .i64 5, .int .i64 P, .int .i64 9999] 34))
  rw [World.size_alloc] at hC
  have hB1 := (hB.alloc (by omega) (.cells #[.bool false, .int .i64 8, .int .i64 300, .int .i64 16, .int .i64 600, .int .i64 600, .int .i64 12000, .int .i64 8000, .int .i64 4000, .int .i64 1200, .int .i64 5, .int .i64 P, .int .i64 9999] 34)).alloc (by simp; omega) (.cells #[.int .i64 0, .int .i64 0, .int .i64 0, .int .i64 0, .int .i64 0, .int .i64 0, .int .i64 0, .int .i64 0] 25)
  refine (jnew_any _ _ _ _ _ _ _ _ _ _ _ _ _ _ _ _ hC).mono ?_
  rintro e w2 ⟨j, rfl, hj, hJ, hb⟩
  replace hS := hS.below hb
  simp only [World.size_alloc] at hj hb
  replace hB := hB1.trans (hb.mono (by omega))
  clear hC hb hB1
  go_wp2_with fail
  obtain ⟨K, hK⟩ : ∃ K, 1 + ev % 20 = K := ⟨_, rfl⟩
  have hK1 : 1 ≤ K ∧ K ≤ 20 := by omega
  rw [hK]
  clear hK
  go_loopw [9, 10, 11] (fun i _ _ wr => ∃ k : Nat, (k : Int) < P ∧ i = .int .i64 k ∧ (∃ s, JC wr j (w1.heap.size + 1) [.bool false, .int .i64 8, .int .i64 300, .int .i64 16, .int .i64 600] [600, 12000, 8000, 4000, 1200, 5, P, 9999] s ∧ (k = 0 ∧ s = ⟨false, false, false, [0, 0, 0, 0, 0, 0, 0, 0]⟩ ∨ ∃ y, s = jb (P - k) y ∧ 9999 - (k : Int) ≤ y ∧ y ≤ 9999))
    ∧ Blk wr w1.heap.size [.bool false, .int .i64 8, .int .i64 300, .int .i64 16, .int .i64 600, .int .i64 600, .int .i64 12000, .int .i64 8000, .int .i64 4000, .int .i64 1200, .int .i64 5, .int .i64 P, .int .i64 9999] 34 ∧ Below w.heap.size w wr) (fun i _ _ _ => 200 - (intOf i).toNat)
  case atStart => exact ⟨0, by omega, rfl, ⟨_, hJ, .inl ⟨rfl, rfl⟩⟩, hS, hB⟩
  case round =>
    clear hJ hS hB
    obtain ⟨k, hkP, rfl, ⟨s, hJ, hs⟩, hS, hB⟩ := hrel
    obtain ⟨wo, rfl⟩ : ∃ wo : World, wo = wr := ⟨_, rfl⟩
    have hsw := hB.size
    have hcl := hJ.ck.lt
    have hjl := hJ.blk.lt
    have h200 : decide ((k : Int) < 200) = true := by simp; omega
    go_upto_if 41 with fail
    go_cut [41] from 42 to 43 (fun _ wx => (∃ y, JC wx j (w1.heap.size + 1) [.bool false, .int .i64 8, .int .i64 300, .int .i64 16, .int .i64 600] [600, 12000, 8000, 4000, 1200, 5, P, 9999] (jb (P - k) y) ∧ 9999 - (k : Int) ≤ y ∧ y ≤ 9999) ∧ Fr (two j (w1.heap.size + 1)) wo wx)
    case first =>
      rcases hs with ⟨rfl, rfl⟩ | ⟨y, rfl, hy1, hy2⟩
      · go_wp2_with fail
        refine (jheard_any j _ _ _ _ _ _ hJ).mono ?_
        rintro e wa ⟨rfl, hJa, hFa⟩
        rw [jb_first P (by omega) (by omega)] at hJa
        go_wp2
        go_meet
        exact ⟨⟨9999, by simpa using hJa, by omega, by omega⟩, hFa⟩
      · by_cases hz : (k : Int) % K = 0
        · have hz2 : ((k : Int) % K == 0) = true := by simp [hz]
          clear hz
          go_wp2_with fail
          refine (jheard_any j _ _ _ _ _ _ hJ).mono ?_
          rintro e wa ⟨rfl, hJa, hFa⟩
          rw [jb_again] at hJa
          go_wp2
          go_meet
          exact ⟨⟨9999, hJa, by omega, by omega⟩, hFa⟩
        · have hz2 : ((k : Int) % K == 0) = false := by simp [hz]
          clear hz
          go_wp2
          go_meet
          exact ⟨⟨y, hJ, hy1, hy2⟩, Fr.refl _ _⟩
    case rest =>
      clear hs hJ
      obtain ⟨⟨y, hJa, hy1, hy2⟩, hFa⟩ := hcut
      have hBa := hB.trans (hFa.two_below (by omega) (by omega) hsw)
      have hSa := hS.fr hFa (by rintro (h | h) <;> omega)
      have hsa := hFa.size
      clear hS hB
      go_wp2_with fail
      refine (tick_at _ _ _ _ hJa.ck rfl).mono ?_
      rintro e wb ⟨A, cap, rfl, hR, hCb, hFb⟩
      have hJb := hJa.clk hFb hCb
      rw [jb_tick _ _ (by omega) (by omega)] at hJb
      have hBb := hBa.trans (hFb.toTwo.two_below (j := j) (by omega) (by omega) (by omega))
      have hSb := hSa.fr hFb (by omega)
      have hsb' := hBb.size
      rw [jb_outs _ _ (by omega) (by omega)] at hR ⊢
      clear hJa hCb hFa hFb hSa hBa
      by_cases hx : P - (k : Int) = 1
      · rw [if_pos hx] at hR ⊢
        obtain ⟨g, rfl, hg⟩ := hR.cells (Fr.refl (two j (w1.heap.size + 1)) wb) (by omega) (by omega) 0 (by decide)
        simp only [List.getD_cons_zero] at hg
        have hPk : ((k : Int) + 1 == P) = true := by simp; omega
        have hx := Lib.hid hx
        go_wp2_with fail
        go_loopw [11] (fun q wr => q = .int .i64 0 ∧ wr = wb) (fun _ _ => 0)
        case atStart => exact ⟨rfl, rfl⟩
        case round =>
          obtain ⟨rfl, rfl⟩ := hrel
          go_wp2_with fail
          refine (jout_any j _ _ _ _ _ _ hJb).mono ?_
          rintro e wm ⟨rfl, -, hFm⟩
          have c11 := (hSb.fr hFm (by rintro (h | h) <;> omega)).cell 11 rfl
          have hBm := hBb.trans (hFm.two_below (by omega) (by omega) hsb')
          have hwhy : jWhy 6 (jb (P - ↑k - 1) (y - 1)) = 3 := rfl
          rw [hwhy]
          clear hwhy
          go_wp2
          go_ret
          exact ⟨rfl, hBm⟩
      · rw [if_neg hx] at hR ⊢
        go_wp2_with fail
        go_loopw [11] (fun q wr => q = .int .i64 0 ∧ wr = wb) (fun _ _ => 0)
        case atStart => exact ⟨rfl, rfl⟩
        case round =>
          obtain ⟨rfl, rfl⟩ := hrel
          go_wp2
          refine ⟨⟨k + 1, by omega, by go_num, ⟨_, hJb, .inr ⟨y - 1, by congr 1; omega, by omega, by omega⟩⟩, hSb, hBb⟩, by simp [intOf]; omega⟩
end Go.Proofs.Ytpalpoecakijnaa
