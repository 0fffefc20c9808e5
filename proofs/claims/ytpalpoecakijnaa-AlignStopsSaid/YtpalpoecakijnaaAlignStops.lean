/-
  The walk of AlignStops: one that is near, or being proved, fails when the other side is out of service; one that is apart waits on.
-/
import Derived.Test.YtpalpoecakijnaaAlignTries
namespace Go.Proofs.Ytpalpoecakijnaa
open Go.RowKit
set_option linter.unusedVariables false
set_option linter.unusedSimpArgs false

/-- A slice of numbers that came in: its elements, where there are any. -/
def Came (w : World) (k : IntKind) (a : Option Addr) (len : Nat) (zs : List Int) : Prop :=
  len ≤ zs.length ∧ (∀ z ∈ zs, (Lit.int k z).wf = true) ∧ ∀ i, i < len → ∃ x, a = some x ∧ x.block < w.heap.size ∧ w.cell? (x.add i) = some (.int k (zs.getD i 0))
theorem Came.below {w w' : World} {k : IntKind} {a : Option Addr} {len : Nat} {zs : List Int} (h : Came w k a len zs) (hb : Below w.heap.size w w') : Came w' k a len zs :=
  ⟨h.1, h.2.1, fun i hi => by
    obtain ⟨x, e, hx, hc⟩ := h.2.2 i hi
    refine ⟨x, e, Nat.lt_of_lt_of_le hx hb.size, ?_⟩
    rw [← hc]
    exact hb.cell (by unfold Addr.add; split <;> exact hx)⟩
theorem Came.wf {w : World} {k : IntKind} {a : Option Addr} {len : Nat} {zs : List Int} (h : Came w k a len zs) (i : Nat) (hi : i < len) : (Lit.int k (zs.getD i 0)).wf = true := by
  rw [List.getD_eq_getElem?_getD, List.getElem?_eq_getElem (by have := h.1; omega)]
  exact h.2.1 _ (List.getElem_mem _)

theorem aHeard_st (T : List Int) (q : Int) (s : AS) (h : 1 ≤ s.st ∧ s.st ≤ 3) (hq : 0 ≤ q ∧ q ≤ 2) : 2 ≤ (aHeard T q s).st ∧ (aHeard T q s).st ≤ 3 := by
  obtain ⟨st, own, their, ph, pn, pt, l⟩ := s
  simp only at h
  rcases (by omega : q = 0 ∨ q = 1 ∨ q = 2) with rfl | rfl | rfl <;> rcases (by omega : st = 1 ∨ st = 2 ∨ st = 3) with rfl | rfl | rfl <;> cases own <;> cases their <;> (constructor <;> simp [aHeard, aNear, aProve])

theorem aHeard_stop (s : AS) (h : 1 ≤ s.st ∧ s.st ≤ 3) : aHeardWhy 3 s = if s.st = 1 then 0 else 8 := by
  unfold aHeardWhy
  by_cases h1 : s.st = 1
  · simp [h1]
  · simp [h1]; omega

set_option maxHeartbeats 4000000 in
theorem alignStops_row (a : Option Addr) (len cap : Nat) (zs : List Int) (w : World) (hz : Came w .u8 a len zs) (hm : len ≤ 9223372036854775807) : Calls Try.prog 8 #[.slice a len cap] w fun e w' => e = .returned (.bool true) ∧ Below w.heap.size w w' := by
  have Hz := Lib.hid hz
  clear hz
  by_cases h40 : len ≤ 40
  · have hd : decide ((40 : Int) < len) = false := by simp; omega
    go_enter Try.func8, Try.ntmps8
    go_wp2_with fail
    refine (awake14_any _).mono ?_
    rintro e w0 ⟨rfl, hB⟩
    have hs0 := hB.size
    go_wp2_with fail
    have hC := Ck.new w0
    replace hB := hB.alloc hs0 (.cells #[.int .i64 0, .int .i64 0, .int .i64 0, .int .i64 0, .int .i64 0, .int .i64 0, .int .i64 0, .int .i64 0] 25)
    refine (usual_any _ _).mono ?_
    rintro e w1 ⟨rfl, hb⟩
    replace hC := hC.below hb
    have hs1 := hb.size
    simp only [World.size_alloc] at hs1 hb
    replace hB := hB.trans (hb.mono (by omega))
    clear hb
    go_wp2_with fail
    refine (anew_any _ _ _ _ _ _ _ _ _ _ _ _ _ _ _ _ hC).mono ?_
    rintro e w2 ⟨j, rfl, hj, hJ, hb⟩
    replace hB := hB.trans (hb.mono (by omega))
    clear hC hb
    go_wp2_with fail
    refine (abegin_any j _ _ _ _ _ hJ).mono ?_
    rintro e w3 ⟨rfl, hJ3, hF⟩
    replace hB := hB.trans (hF.two_below (by omega) hs0 hB.size)
    clear hJ hF
    go_wp2_with fail
    go_loopw [5] (fun i wr => ∃ (k : Nat) (s : AS), k ≤ len ∧ i = .int .i64 k ∧ AC wr j w0.heap.size uS uT s ∧ (1 ≤ s.st ∧ s.st ≤ 3) ∧ (k = 0 ∧ s.st = 1 ∨ 0 < k ∧ s.st ≠ 1) ∧ Below w.heap.size w wr) (fun i _ => len - (intOf i).toNat)
    case atStart => exact ⟨0, _, by omega, rfl, hJ3, by simp [aBegin], .inl ⟨rfl, rfl⟩, hB⟩
    case round =>
      clear hJ3 hB
      obtain ⟨k, s, hk, rfl, hA, hst, hks, hB⟩ := hrel
      have hsw := hB.size
      by_cases hlt : k < len
      · obtain ⟨x, rfl, hx, hc⟩ := (Hz.out.below hB).2.2 k hlt
        have hwf := bounds_u8 (Hz.out.wf k hlt)
        obtain ⟨y, hy⟩ : ∃ y, zs.getD k 0 = y := ⟨_, rfl⟩
        rw [hy] at hc hwf
        clear hy
        clear hks
        go_wp2_with fail
        refine (aheard_any j _ _ _ _ _ _ hA (by omega) (by omega)).mono ?_
        rintro e w4 ⟨rfl, hA4, hF⟩
        have h2 := aHeard_st uT (y % 3) s hst (by omega)
        have hB4 := hB.trans (hF.two_below (by omega) hs0 hsw)
        generalize aHeard uT (y % 3) s = s' at *
        go_wp2
        exact ⟨⟨k + 1, s', by omega, by go_num, hA4, by omega, .inr ⟨by omega, by omega⟩, hB4⟩, by simp [intOf]; omega⟩
      · have hkl : k = len := by omega
        have h14 := hA.st
        have hw3 := aHeard_stop s hst
        rcases hks with ⟨h0, h1⟩ | ⟨h0, h1⟩
        · rw [h1] at h14 hw3
          rw [if_pos rfl] at hw3
          subst hkl
          subst h0
          go_wp2_with fail
          refine (aheard_any j _ _ _ _ _ _ hA (by omega) (by omega)).mono ?_
          rintro e w4 ⟨rfl, hA4, hF⟩
          have hB4 := hB.trans (hF.two_below (by omega) hs0 hsw)
          rw [hw3]
          go_wp2
          go_ret
          exact ⟨rfl, hB4⟩
        · rw [if_neg h1] at hw3
          obtain ⟨z, hz⟩ : ∃ z, s.st = z := ⟨_, rfl⟩
          rw [hz] at h14 h1
          have e1 : (z == 1) = false := by simp [h1]
          have e2 : ((len : Int) == 0) = false := by simp; omega
          have e3 : (len == 0) = false := by simp; omega
          clear h1
          go_wp2_with fail
          refine (aheard_any j _ _ _ _ _ _ hA (by omega) (by omega)).mono ?_
          rintro e w4 ⟨rfl, hA4, hF⟩
          have hB4 := hB.trans (hF.two_below (by omega) hs0 hsw)
          rw [hw3]
          go_wp2
          go_ret
          exact ⟨rfl, hB4⟩
  · have hd : decide ((40 : Int) < len) = true := by simp; omega
    go_enter Try.func8, Try.ntmps8
    go_wp2_with fail
    refine (awake14_any _).mono ?_
    rintro e w0 ⟨rfl, hB⟩
    go_wp2_with fail
    refine (awake14_any _).mono ?_
    rintro e w1 ⟨rfl, hB1⟩
    go_wp2
    go_ret
    exact ⟨rfl, bthen hB hB1⟩
end Go.Proofs.Ytpalpoecakijnaa
