/-
  May one more wait? The reference's answer.
-/
import Derived.Test.YtadheikcgdhcdaaHpR
import Derived.Test.YtadheikcgdhcdaaRq
namespace Go.Proofs.Ytadheikcgdhcdaa
open Go.RowKit Go.Sort
set_option linter.unusedVariables false
set_option linter.unusedSimpArgs false

def fitsR (sent : Nat) (n1 n2 : Int) (L : List (List Int)) : Bool := decide (sent = 0) || (decide ((sent : Int) < n1) && decide (octs (L.take (sent + 1)) ≤ n2))
set_option maxRecDepth 100000 in
theorem rfits {W w : World} {vL : Value} {L : List (List Int)} (hL : RR W w vL L) (sent : Nat) (first most oct : Int) (t : SdT) (hs : sent < L.length) (hn : L.length ≤ 1000) (h3 : ∀ x ∈ L, x.length ≤ 300) :
    Calls Try.prog 93 #[.agg (sdc vL sent first most oct t).toArray] w fun e w' => e = .returned (.bool (fitsR sent t.n1 t.n2 L)) ∧ Below w.heap.size w w' := by
  obtain ⟨a, c, rfl⟩ := hL.shape
  have hcap := hL.len
  have hS := Blk.new w (sdc (.slice a L.length c) sent first most oct t) 51
  have hb : Below w.heap.size w (w.alloc (.cells (sdc (.slice a L.length c) sent first most oct t).toArray 51)) := (Below.refl _ _).alloc (Nat.le_refl _) _
  have hLX := hL.below hb
  have c1 := hS.cell 1 rfl
  unfold fitsR
  by_cases h0 : sent = 0
  · subst h0
    go_enter Try.func93, Try.ntmps93
    go_upto_region 1 with fail
    generalize w.alloc (.cells (sdc (.slice a L.length c) ((0 : Nat) : Int) first most oct t).toArray 51) = X at *
    go_wp2
    go_ret
    exact ⟨by simp, hb⟩
  · have h0' : ((sent : Int) == 0) = false := by simpa using h0
    obtain ⟨s1, hs1⟩ : ∃ s1, sent + 1 = s1 := ⟨_, rfl⟩
    rw [hs1]
    have h77 : ∀ w', Below w.heap.size w w' → True := fun _ _ => trivial
    have q77 := fun w' (hb' : Below (w.alloc (.cells (sdc (.slice a L.length c) sent first most oct t).toArray 51)).heap.size (w.alloc (.cells (sdc (.slice a L.length c) sent first most oct t).toArray 51)) w') => rsize ((hLX.below hb').take s1 (by omega)) (by rw [List.length_take]; omega) (fun x hx => h3 x (List.mem_of_mem_take hx))
    have hw1 : IntKind.i64.wrap ((sent : Int) + 1) = (s1 : Int) := by rw [wrapH _ (by omega)]; omega
    have hsn : s1 ≤ c := by omega
    have hmax : c ≤ maxLen := hcap.2.2
    rw [show decide (sent = 0) = false from decide_eq_false h0, Bool.false_or]
    generalize octs (L.take s1) = A at *
    clear hs1
    by_cases h1 : (sent : Int) < t.n1
    · rw [decide_eq_true h1, Bool.true_and]
      go_enter Try.func93, Try.ntmps93
      go_upto_region 1 with fail
      generalize w.alloc (.cells (sdc (.slice a L.length c) sent first most oct t).toArray 51) = X at *
      have k0 := cell_regrown (hS.cell 0 rfl)
      have k1 := cell_regrown (hS.cell 1 rfl)
      have k6 := cell_regrown (hS.cell 6 rfl)
      have k7 := cell_regrown (hS.cell 7 rfl)
      have c77 := fun d os => Calls.regrown_of ((q77 _ (below_regrown X d os)).mono (fun e w' ⟨he, hq⟩ => (⟨he, by rw [hq]; exact Below.refl _ _⟩ : e = _ ∧ Below _ _ w')))
      clear q77 hLX hL hS
      go_upto_region 3 with fail
      refine wp_region_quiet_below (by kernel_rfl) (by kernel_rfl) (WQ.out ?_)
      repeat (refine WQ.step (fun K hK => ?_); go_simp; first | (refine hK _ ?_; clear hK K) | (apply Exists.intro; refine ⟨fun _ => ?_, hK _ ?_⟩; (go_at_call 77; exact c77 _ _); clear hK K))
      refine WQ.nil ?_
      intro _ hw'
      obtain ⟨⟨dq, osq⟩, hw''⟩ := hw'
      subst hw''
      go_wp2
      go_ret
      exact ⟨by simp, bthen hb (below_regrown X dq osq)⟩
    · rw [decide_eq_false h1, Bool.false_and]
      go_enter Try.func93, Try.ntmps93
      go_upto_region 1 with fail
      generalize w.alloc (.cells (sdc (.slice a L.length c) sent first most oct t).toArray 51) = X at *
      have k0 := cell_regrown (hS.cell 0 rfl)
      have k1 := cell_regrown (hS.cell 1 rfl)
      have k6 := cell_regrown (hS.cell 6 rfl)
      have k7 := cell_regrown (hS.cell 7 rfl)
      have c77 := fun d os => Calls.regrown_of ((q77 _ (below_regrown X d os)).mono (fun e w' ⟨he, hq⟩ => (⟨he, by rw [hq]; exact Below.refl _ _⟩ : e = _ ∧ Below _ _ w')))
      clear q77 hLX hL hS
      go_upto_region 3 with fail
      refine wp_region_quiet_below (by kernel_rfl) (by kernel_rfl) (WQ.out ?_)
      repeat (refine WQ.step (fun K hK => ?_); go_simp; first | (refine hK _ ?_; clear hK K) | (apply Exists.intro; refine ⟨fun _ => ?_, hK _ ?_⟩; fail; clear hK K))
      refine WQ.nil ?_
      intro _ hw'
      obtain ⟨⟨dq, osq⟩, hw''⟩ := hw'
      subst hw''
      go_wp2
      go_ret
      exact ⟨by simp, bthen hb (below_regrown X dq osq)⟩
end Go.Proofs.Ytadheikcgdhcdaa
