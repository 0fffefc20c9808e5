/-
  The walk of JamTells: as long as a side is busy its status is due again and again, each T5 ticks.
-/
import Derived.Test.YtpalpoecakijnaaJamLaws
namespace Go.Proofs.Ytpalpoecakijnaa
open Go.RowKit
set_option linter.unusedVariables false
set_option linter.unusedSimpArgs false

/-- All that run out, one behind the other. -/
def jOuts (T : List Int) (o : List Int) (s : JS) : JS := o.foldl (fun s t => jOut T t s) s
theorem jOuts_snoc (T o : List Int) (t : Int) (s : JS) : jOuts T (o ++ [t]) s = jOut T t (jOuts T o s) := by simp [jOuts]

theorem Row.cells {w w' : World} {B : Nat} {A : Option Addr} {o : List Int} {j c : Nat} (h : Row w B A o) (hF : Fr (two j c) w w') (hj : j < B) (hc : c < B) (k : Nat) (hk : k < o.length) :
    ∃ g, A = some ⟨g, 0, none⟩ ∧ w'.cell? ⟨g, k, none⟩ = some (.int .i64 (o.getD k 0)) := by
  obtain ⟨g, e, hb, hlt, hg⟩ := h (by omega)
  refine ⟨g, e, ?_⟩
  rw [← hg k hk]
  exact World.cell?_of_block (w := w) (hF.block g hlt (fun h => by rcases h with h | h <;> omega))

/-- A jam that began i ticks ago, its T5 being P. -/
def jt (P : Int) (i : Nat) : JS := ⟨true, false, decide ((i : Int) % P = 0), [0, 0, 0, 0, 0, P - (i : Int) % P, 0, 0]⟩

theorem tickO5 (x : Int) : tickO [0, 0, 0, 0, 0, x, 0, 0] 8 = if x = 1 then [5] else [] := by
  by_cases h : x = 1
  · subst h; decide
  · have : (x == 1) = false := by simp [h]
    simp [tickO, List.range_succ, List.filter, this, h]
theorem tickL5 (x : Int) (h : 0 < x) : tickL [0, 0, 0, 0, 0, x, 0, 0] = [0, 0, 0, 0, 0, x - 1, 0, 0] := by simp [tickL, dec1, h]

theorem jt_next (P : Int) (i : Nat) (hP : 1 ≤ P) (hP2 : P ≤ 1000) (T : List Int) (hT : T.getD 5 0 = P) :
    jOuts T (tickO (jDue (jt P i)).l 8) { jDue (jt P i) with l := tickL (jDue (jt P i)).l } = jt P (i + 1) := by
  have hm : (i : Int) % P < P := Int.emod_lt_of_pos _ (by omega)
  have hm0 : 0 ≤ (i : Int) % P := Int.emod_nonneg _ (by omega)
  have e1 : (jDue (jt P i)).l = [0, 0, 0, 0, 0, P - (i : Int) % P, 0, 0] := rfl
  rw [e1, tickO5, tickL5 _ (by omega)]
  have hadd : ((i + 1 : Nat) : Int) % P = ((i : Int) % P + 1) % P := by
    rw [Int.natCast_add, Int.add_emod]; simp [Int.add_emod]
  by_cases h : P - (i : Int) % P = 1
  · rw [if_pos h]
    have hz : ((i + 1 : Nat) : Int) % P = 0 := by rw [hadd, show (i : Int) % P + 1 = P from by omega, Int.emod_self]
    have hs : sOk 5 P = true := (sOk_iff 5 P).2 ⟨by omega, by omega, by omega⟩
    simp only [jOuts, List.foldl, jOut, jDue, jt, hT, startL, hs, hz]
    simp
  · rw [if_neg h]
    have hz : ((i + 1 : Nat) : Int) % P = (i : Int) % P + 1 := by rw [hadd]; exact Int.emod_eq_of_lt (by omega) (by omega)
    simp only [jOuts, List.foldl, jDue, jt, hz]
    have : ¬ ((i : Int) % P + 1 = 0) := by omega
    simp [this]; omega

theorem ceil_next (P : Int) (i : Nat) (hP : 1 ≤ P) : ((i + 1 : Nat) + P - 1 : Int) / P = ((i : Int) + P - 1) / P + (if (i : Int) % P = 0 then 1 else 0) := by
  have h := Int.emod_add_mul_ediv (i : Int) P
  have hm : (i : Int) % P < P := Int.emod_lt_of_pos _ (by omega)
  have hm0 : 0 ≤ (i : Int) % P := Int.emod_nonneg _ (by omega)
  generalize hq : (i : Int) / P = q at h
  generalize hr : (i : Int) % P = r at *
  have e1 : ((i + 1 : Nat) + P - 1 : Int) = r + P * (q + 1) := by rw [Int.mul_add]; omega
  have e2 : ((i : Int) + P - 1) = (r - 1) + P * (q + 1) := by rw [Int.mul_add]; omega
  rw [e1, e2, Int.add_mul_ediv_left _ _ (by omega), Int.add_mul_ediv_left _ _ (by omega), Int.ediv_eq_zero_of_lt hm0 hm]
  by_cases h0 : r = 0
  · rw [if_pos h0, h0, show ((0 : Int) - 1) / P = -1 from by
      rw [Int.ediv_eq_iff_of_pos (by omega)]; omega]; omega
  · rw [if_neg h0, Int.ediv_eq_zero_of_lt (by omega) (by omega)]; omega

def usualS : List Value := [.bool false, .int .i64 8, .int .i64 300, .int .i64 16, .int .i64 600]

set_option maxHeartbeats 2000000 in
theorem jamTells_row (t5 tk : Int) (w : World) (h5 : 0 ≤ t5 ∧ t5 ≤ 255) (hk : 0 ≤ tk ∧ tk ≤ 255) : Calls Try.prog 4 #[.int .u8 t5, .int .u8 tk] w fun e w' => e = .returned (.bool true) ∧ Below w.heap.size w w' := by
  obtain ⟨tk, rfl⟩ := Int.eq_ofNat_of_zero_le hk.1
  go_enter Try.func4, Try.ntmps4
  go_wp2_with fail
  refine (awake16_any _).mono ?_
  rintro e w0 ⟨rfl, hB⟩
  have hs0 := hB.size
  go_wp2_with fail
  refine (usual_any _ _).mono ?_
  rintro e w1 ⟨rfl, hb⟩
  have hs1 := hb.size
  replace hB := hB.trans (hb.mono hs0)
  clear hb
  go_wp2_with fail
  obtain ⟨P, hP⟩ : ∃ P, 1 + t5 % 30 = P := ⟨_, rfl⟩
  have hP1 : 1 ≤ P ∧ P ≤ 30 := by omega
  rw [hP]
  clear hP
  have hS := (Blk.new w1 [.bool false, .int .i64 8, .int .i64 300, .int .i64 16, .int .i64 600, .int .i64 600, .int .i64 12000, .int .i64 8000, .int .i64 4000, .int .i64 1200, .int .i64 P, .int .i64 4000, .int .i64 6000] 34).alloc (.cells #[.int .i64 0, .int .i64 0, .int .i64 0, .int .i64 0, .int .i64 0, .int .i64 0, .int .i64 0, .int .i64 0] 25)
  have hC := Ck.new (w1.alloc (.cells #[.bool false, .int .i64 8, .int .i64 300, .int .i64 16, .int .i64 600, .int .i64 600, .int .i64 12000, .int .i64 8000, .int .i64 4000, .int .i64 1200, .int .i64 P, .int .i64 4000, .int .i64 6000] 34))
  rw [World.size_alloc] at hC
  have hB1 := (hB.alloc (by omega) (.cells #[.bool false, .int .i64 8, .int .i64 300, .int .i64 16, .int .i64 600, .int .i64 600, .int .i64 12000, .int .i64 8000, .int .i64 4000, .int .i64 1200, .int .i64 P, .int .i64 4000, .int .i64 6000] 34)).alloc (by simp; omega) (.cells #[.int .i64 0, .int .i64 0, .int .i64 0, .int .i64 0, .int .i64 0, .int .i64 0, .int .i64 0, .int .i64 0] 25)
  refine (jnew_any _ _ _ _ _ _ _ _ _ _ _ _ _ _ _ _ hC).mono ?_
  rintro e w2 ⟨j, rfl, hj, hJ, hb⟩
  replace hS := hS.below hb
  simp only [World.size_alloc] at hj hb
  replace hB := hB1.trans (hb.mono (by omega))
  clear hC hb hB1
  go_wp2_with fail
  refine (jbegin_any j _ _ _ _ _ hJ).mono ?_
  rintro e w3 ⟨rfl, hJ3, hF⟩
  replace hB := hB.trans (hF.two_below (by omega) (by omega) hB.size)
  replace hS := hS.fr hF (by rintro (h | h) <;> omega)
  have hst : jBegin [600, 12000, 8000, 4000, 1200, P, 4000, 6000] ⟨false, false, false, [0, 0, 0, 0, 0, 0, 0, 0]⟩ = jt P 0 := by
    have hs : sOk 5 P = true := (sOk_iff 5 P).2 ⟨by omega, by omega, by omega⟩
    simp [jBegin, jt, startL, hs]
  rw [hst] at hJ3
  clear hJ hF hst
  go_wp2_with fail
  go_loopw [8, 9, 10, 11] (fun n i _ _ wr => ∃ k : Nat, k ≤ tk ∧ i = .int .i64 k ∧ n = .int .i64 (((k : Int) + P - 1) / P) ∧ JC wr j (w1.heap.size + 1) [.bool false, .int .i64 8, .int .i64 300, .int .i64 16, .int .i64 600] [600, 12000, 8000, 4000, 1200, P, 4000, 6000] (jt P k)
    ∧ Blk wr w1.heap.size [.bool false, .int .i64 8, .int .i64 300, .int .i64 16, .int .i64 600, .int .i64 600, .int .i64 12000, .int .i64 8000, .int .i64 4000, .int .i64 1200, .int .i64 P, .int .i64 4000, .int .i64 6000] 34 ∧ Below w.heap.size w wr) (fun _ i _ _ _ => tk - (intOf i).toNat)
  case atStart => exact ⟨0, by omega, rfl, congrArg _ (by rw [Int.ediv_eq_zero_of_lt] <;> omega), hJ3, hS, hB⟩
  case round =>
    clear hJ3 hS hB
    obtain ⟨k, hkk, rfl, rfl, hJ, hS, hB⟩ := hrel
    by_cases hlt : k < tk
    · obtain ⟨wo, rfl⟩ : ∃ wo : World, wo = wr := ⟨_, rfl⟩
      have hsw := hB.size
      have hcl := hJ.ck.lt
      have hjl := hJ.blk.lt
      go_wp2_with fail
      refine (jdue_any j _ _ _ _ _ hJ).mono ?_
      rintro e wa ⟨rfl, hJa, hFa⟩
      have hBa := hB.trans (hFa.two_below (by omega) (by omega) hsw)
      have hSa := hS.fr hFa (by rintro (h | h) <;> omega)
      have hsa := hFa.size
      have hn := Lib.hid (ceil_next P k hP1.1)
      have hnx := Lib.hid (jt_next P k hP1.1 (by omega) [600, 12000, 8000, 4000, 1200, P, 4000, 6000] rfl)
      clear hJ hS hB
      have hq0 : 0 ≤ ((k : Int) + P - 1) / P ∧ ((k : Int) + P - 1) / P ≤ 1000 := by
        constructor
        · exact Int.ediv_nonneg (by omega) (by omega)
        · exact Int.le_trans (Int.ediv_le_self _ (by omega)) (by omega)
      obtain ⟨N, hN⟩ : ∃ N, ((k : Int) + P - 1) / P = N := ⟨_, rfl⟩
      rw [hN] at hn hq0 ⊢
      clear hN
      have hdd : ∃ b, (jt P k).due = b ∧ (if (k : Int) % P = 0 then (1 : Int) else 0) = if b = true then 1 else 0 := ⟨_, rfl, by simp [jt]⟩
      obtain ⟨b, hb1, hb2⟩ := hdd
      rw [hb1]
      rw [hb2] at hn
      clear hb1 hb2
      cases b
      all_goals
        go_wp2_with fail
        refine (tick_at _ _ _ _ hJa.ck rfl).mono ?_
        rintro e wb ⟨A, cap, rfl, hR, hCb, hFb⟩
        have hJb := hJa.clk hFb hCb
        have hBb := hBa.trans (hFb.toTwo.two_below (j := j) (by omega) (by omega) (by omega))
        have hSb := hSa.fr hFb (by omega)
        have hol : (tickO (jDue (jt P k)).l 8).length ≤ 8 := tickO_length _ 8
        obtain ⟨o, ho⟩ : ∃ o, tickO (jDue (jt P k)).l 8 = o := ⟨_, rfl⟩
        rw [ho] at hR hol hnx ⊢
        obtain ⟨sb, hsb⟩ : ∃ sb, ({ jDue (jt P k) with l := tickL (jDue (jt P k)).l } : JS) = sb := ⟨_, rfl⟩
        rw [hsb] at hJb hnx
        clear ho hsb hJa hCb hFa hFb hSa hBa
        have hsb' := hBb.size
        go_wp2_with fail
        go_loopw [11] (fun q wr => ∃ m : Nat, m ≤ o.length ∧ q = .int .i64 m ∧ JC wr j (w1.heap.size + 1) [.bool false, .int .i64 8, .int .i64 300, .int .i64 16, .int .i64 600] [600, 12000, 8000, 4000, 1200, P, 4000, 6000] (jOuts [600, 12000, 8000, 4000, 1200, P, 4000, 6000] (o.take m) sb) ∧ Fr (two j (w1.heap.size + 1)) wb wr) (fun q _ => o.length - (intOf q).toNat)
        case atStart => exact ⟨0, by omega, rfl, hJb, Fr.refl _ _⟩
        case round =>
          obtain ⟨m, hm, rfl, hJm, hFm⟩ := hrel
          by_cases hmo : m < o.length
          · obtain ⟨g, rfl, hg⟩ := hR.cells hFm (by omega) (by omega) m hmo
            have hs := take_snoc' o m hmo
            obtain ⟨y, hy⟩ : ∃ y, o.getD m 0 = y := ⟨_, rfl⟩
            rw [hy] at hg hs
            clear hy
            have hs := Lib.hid hs
            go_wp2_with fail
            refine (jout_any j _ _ _ _ _ _ hJm).mono ?_
            rintro e wm ⟨rfl, hJn, hFn⟩
            rw [← jOuts_snoc, ← hs.out] at hJn
            go_wp2
            exact ⟨⟨m + 1, by omega, by go_num, hJn, hFm.then_ hFn⟩, by simp [intOf]; omega⟩
          · have hmm : m = o.length := by omega
            have hnx := hnx.out
            rw [hmm, List.take_length, hnx] at hJm
            have hmm := Lib.hid hmm
            go_wp2
            refine ⟨⟨k + 1, by omega, by go_num, ?_, hJm, hSb.fr hFm (by rintro (h | h) <;> omega), hBb.trans (hFm.two_below (by omega) (by omega) (by omega))⟩, by simp [intOf]; omega⟩
            rw [hn.out]
            simp
    · have hkt : k = tk := by omega
      subst hkt
      by_cases h0 : k = 0
      · subst h0
        have hz : ((0 : Nat) + P - 1 : Int) / P = 0 := by rw [Int.ediv_eq_zero_of_lt] <;> omega
        rw [hz]
        go_wp2
        go_ret
        exact ⟨rfl, hB⟩
      · have c10 := hS.cell 10 rfl
        have hz : (k == 0) = false := by simp [h0]
        have hz2 : ((k : Int) == 0) = false := by simp [h0]
        have hq : ((k : Int) + P - 1) / P = 1 + ((k : Int) - 1) / P := by
          rw [show ((k : Int) + P - 1) = ((k : Int) - 1) + P * 1 from by omega, Int.add_mul_ediv_left _ _ (by omega)]; omega
        have hq0 : 0 ≤ ((k : Int) - 1) / P ∧ ((k : Int) - 1) / P ≤ 1000 := by
          constructor
          · exact Int.ediv_nonneg (by omega) (by omega)
          · exact Int.le_trans (Int.ediv_le_self _ (by omega)) (by omega)
        rw [hq]
        clear hq
        go_wp2
        go_ret
        exact ⟨rfl, hB⟩
end Go.Proofs.Ytpalpoecakijnaa
