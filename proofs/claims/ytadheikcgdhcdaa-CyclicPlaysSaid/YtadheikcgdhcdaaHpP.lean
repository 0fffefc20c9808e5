/-
  A hold and the reference's side, act by act.
-/
import Derived.Test.YtadheikcgdhcdaaHpR
namespace Go.Proofs.Ytadheikcgdhcdaa
open Go.RowKit
set_option linter.unusedVariables false
set_option linter.unusedSimpArgs false

def t0 : SdT := ⟨false, 0, 0, true, true, 127, false, -1, false, false, false, false, false⟩
/-- A hold, and the reference's side in its block. -/
structure PW (W w : World) (h s : Nat) (m o f : Int) (sv nv vL : Value) (ss ns : List (List Int)) : Prop where
  bel : Below W.heap.size W w
  hx : HX w h m o f sv nv ss ns
  rr : RR W w vL (ss ++ ns)
  sd : Blk w s (sdc vL ss.length f m o t0) 51
  ap : ∀ g, vL.ownBlock = some g → ¬ Ro sv nv g
  ro : ∀ q, Ro sv nv q → W.heap.size ≤ q
  hh : W.heap.size ≤ h
  hs : W.heap.size ≤ s
  by' : ∀ x ∈ ss ++ ns, ∀ z ∈ x, 0 ≤ z ∧ z < 256
theorem RR.own33 {W w : World} {vL : Value} {L : List (List Int)} (h : RR W w vL L) {g : Nat} (hg : vL.ownBlock = some g) : ∃ cs, Blk w g cs 33 := by
  obtain ⟨vs, h1, -, -⟩ := h
  exact h1.own33 hg
theorem PW.below {W w w' : World} {h s : Nat} {m o f : Int} {sv nv vL : Value} {ss ns : List (List Int)} (k : PW W w h s m o f sv nv vL ss ns) (hb : Below w.heap.size w w') : PW W w' h s m o f sv nv vL ss ns :=
  ⟨k.bel.trans (hb.mono k.bel.size), k.hx.below hb, k.rr.below hb, k.sd.below hb, k.ap, k.ro, k.hh, k.hs, k.by'⟩
/-- The hold acts, the reference's next row stands; then its side is written. -/
theorem PW.step {W w w' w2 : World} {h s : Nat} {m o f f' : Int} {sv nv sv' nv' vL vL' : Value} {ss ns ss' ns' : List (List Int)} (k : PW W w h s m o f sv nv vL ss ns) (kn : HX w' h m o f' sv' nv' ss' ns') (hF : HF w w' h sv nv sv' nv')
    (hR : RR W w vL' (ss' ++ ns')) (hap : ∀ g, vL'.ownBlock = some g → ¬ Ro sv nv g) (hby : ∀ x ∈ ss' ++ ns', ∀ z ∈ x, 0 ≤ z ∧ z < 256) (hw2 : w2 = w'.setRow s (sdc vL' ss'.length f' m o t0).toArray) : PW W w2 h s m o f' sv' nv' vL' ss' ns' := by
  have hfb : Below W.heap.size W w' := k.bel.trans (hF.fr.below k.bel.size (fun q e => by
    rcases e with rfl | e
    · exact k.hh
    · exact k.ro q e))
  have hsd : Blk w' s (sdc vL ss.length f m o t0) 51 := k.hx.keep hF k.sd (by decide) (by decide)
  have hR' : RR W w' vL' (ss' ++ ns') := hR.fr hF.fr (fun g hg e => by
    obtain ⟨cs, hc⟩ := hR.own33 hg
    rcases e with rfl | e
    · exact Blk.apart hc k.hx.blk (by decide) rfl
    · exact hap g hg e)
  have hF2 : Fr (fun q => q = s) w' w2 := by rw [hw2]; exact Fr.row1 w' s _
  subst hw2
  refine ⟨below_row hfb k.hs _, kn.fr hF2 ?_ ?_ ?_, hR'.fr hF2 (fun g hg e => ?_), Blk.row hsd _, fun g hg e => ?_, fun q hq => ?_, k.hh, k.hs, hby⟩
  · intro e
    exact Blk.apart kn.blk hsd (by decide) e
  · intro q hq e
    obtain ⟨cs, hc⟩ := kn.row33 hq
    exact Blk.apart hc hsd (by decide) e
  · intro g cs hG e
    exact Blk.apart hG hsd (by decide) e
  · obtain ⟨cs, hc⟩ := hR'.own33 hg
    exact Blk.apart hc hsd (by decide) e
  · obtain ⟨cs, hc⟩ := hR.own33 hg
    rcases hF.own g e with e2 | e2
    · exact hap g hg e2
    · have := hc.lt
      omega
  · rcases hF.own q hq with e | e
    · exact k.ro q e
    · exact Nat.le_trans k.bel.size e
/-- What the hold's act leaves of the reference's side. -/
theorem PW.afterF {W w w' : World} {h s : Nat} {m o f : Int} {sv nv sv' nv' vL : Value} {ss ns : List (List Int)} (k : PW W w h s m o f sv nv vL ss ns) (hF : HF w w' h sv nv sv' nv') :
    Below W.heap.size W w' ∧ RR W w' vL (ss ++ ns) ∧ Blk w' s (sdc vL ss.length f m o t0) 51 := by
  refine ⟨k.bel.trans (hF.fr.below k.bel.size (fun q e => ?_)), k.rr.fr hF.fr (fun g hg e => ?_), k.hx.keep hF k.sd (by decide) (by decide)⟩
  · rcases e with rfl | e
    · exact k.hh
    · exact k.ro q e
  · obtain ⟨cs, hc⟩ := k.rr.own33 hg
    rcases e with rfl | e
    · exact Blk.apart hc k.hx.blk (by decide) rfl
    · exact k.ap g hg e
/-- The hold acts first, the reference then. -/
theorem PW.step2 {W w w' w'' w2 : World} {h s : Nat} {m o f f' : Int} {sv nv sv' nv' vL vL' : Value} {ss ns ss' ns' : List (List Int)} (k : PW W w h s m o f sv nv vL ss ns) (kn : HX w' h m o f' sv' nv' ss' ns') (hF : HF w w' h sv nv sv' nv')
    (hb : Below w'.heap.size w' w'') (hR : RR W w'' vL' (ss' ++ ns')) (hown : ∀ g, vL'.ownBlock = some g → vL.ownBlock = some g ∨ w'.heap.size ≤ g) (hby : ∀ x ∈ ss' ++ ns', ∀ z ∈ x, 0 ≤ z ∧ z < 256) (hw2 : w2 = w''.setRow s (sdc vL' ss'.length f' m o t0).toArray) : PW W w2 h s m o f' sv' nv' vL' ss' ns' := by
  obtain ⟨a1, a2, a3⟩ := k.afterF hF
  have hsd := a3.below hb
  have kn2 := kn.below hb
  have hfb := a1.trans (hb.mono a1.size)
  have hF2 : Fr (fun q => q = s) w'' w2 := by rw [hw2]; exact Fr.row1 w'' s _
  subst hw2
  refine ⟨below_row hfb k.hs _, kn2.fr hF2 ?_ ?_ ?_, hR.fr hF2 (fun g hg e => ?_), Blk.row hsd _, fun g hg e => ?_, fun q hq => ?_, k.hh, k.hs, hby⟩
  · intro e
    exact Blk.apart kn2.blk hsd (by decide) e
  · intro q hq e
    obtain ⟨cs, hc⟩ := kn2.row33 hq
    exact Blk.apart hc hsd (by decide) e
  · intro g cs hG e
    exact Blk.apart hG hsd (by decide) e
  · obtain ⟨cs, hc⟩ := hR.own33 hg
    exact Blk.apart hc hsd (by decide) e
  · obtain ⟨cs, hc⟩ := kn.row33 e
    have hlt := hc.lt
    rcases hown g hg with e1 | e1
    · rcases hF.own g e with e2 | e2
      · exact k.ap g e1 e2
      · obtain ⟨ds, hd⟩ := k.rr.own33 e1
        have := hd.lt
        omega
    · omega
  · rcases hF.own q hq with e | e
    · exact k.ro q e
    · exact Nat.le_trans k.bel.size e
theorem PW.apN {W w : World} {h s : Nat} {m o f : Int} {sv nv vL vL' : Value} {ss ns : List (List Int)} (k : PW W w h s m o f sv nv vL ss ns) (hn : ∀ g, vL'.ownBlock = some g → vL.ownBlock = some g ∨ w.heap.size ≤ g) : ∀ g, vL'.ownBlock = some g → ¬ Ro sv nv g := fun g hg e => by
  rcases hn g hg with e2 | e2
  · exact k.ap g e2 e
  · obtain ⟨cs, hc⟩ := k.hx.row33 e
    have := hc.lt
    omega
def ToldT : Prop := ∀ (W w : World) (h : Nat) (m o f : Int) (sv nv vL : Value) (ss ns L : List (List Int)), HX w h m o f sv nv ss ns → ss ++ ns = L → RR W w vL L → Below W.heap.size W w → (∀ x ∈ L, ∀ z ∈ x, 0 ≤ z ∧ z < 256) → ∀ (m2 o2 : Int) (t : SdT), Calls Try.prog 36 #[.pointer (some ⟨h, 0, none⟩), .agg (sdc vL ss.length f m2 o2 t).toArray] w fun e w' => e = .returned (.bool true) ∧ Below w.heap.size w w'
theorem PW.told {W w : World} {h s : Nat} {m o f : Int} {sv nv vL : Value} {ss ns : List (List Int)} (k : PW W w h s m o f sv nv vL ss ns) (T : ToldT) :
    Calls Try.prog 36 #[.pointer (some ⟨h, 0, none⟩), .agg (sdc vL ss.length f m o t0).toArray] w fun e w' => e = .returned (.bool true) ∧ PW W w' h s m o f sv nv vL ss ns := by
  refine (T W w h m o f sv nv vL ss ns _ k.hx rfl k.rr k.bel k.by' m o t0).mono ?_
  rintro e w' ⟨rfl, hb⟩
  exact ⟨rfl, k.below hb⟩
theorem putR_eq (m o : Int) (ss ns : List (List Int)) (n : Nat) : putR m o (ss ++ ns) n = putCode m o ss ns n := by
  unfold putR putCode
  have e1 : ((ss ++ ns).length : Int) = (ss.length : Int) + ns.length := by rw [List.length_append]; omega
  have e2 : octs (ss ++ ns) = octs ss + octs ns := by simp [octs]
  rw [e1, e2]
theorem PW.len300 {W w : World} {h s : Nat} {m o f : Int} {sv nv vL : Value} {ss ns : List (List Int)} (k : PW W w h s m o f sv nv vL ss ns) : ∀ x ∈ ss ++ ns, x.length ≤ 300 := fun x hx => by
  have := k.hx.len x (List.mem_append.1 hx)
  omega
theorem PW.cnt {W w : World} {h s : Nat} {m o f : Int} {sv nv vL : Value} {ss ns : List (List Int)} (k : PW W w h s m o f sv nv vL ss ns) : (ss ++ ns).length ≤ 1000 := by rw [List.length_append]; exact k.hx.cnt
theorem PW.rput {W w : World} {h s : Nat} {m o f : Int} {sv nv vL : Value} {ss ns : List (List Int)} (k : PW W w h s m o f sv nv vL ss ns) (v : Value) (x : List Int) (hv : Oct W v x) (hx : x.length ≤ 1000) :
    Calls Try.prog 28 #[.agg (sdc vL ss.length f m o t0).toArray, v] w fun e w' => ∃ vL', e = .returned (.tuple #[.agg (sdc vL' ss.length f m o t0).toArray, .int .i64 (putCode m o ss ns x.length)]) ∧ PW W w' h s m o f sv nv vL ss ns ∧ Below w.heap.size w w' ∧ RR W w' vL' (ss ++ (if putCode m o ss ns x.length = 0 then ns ++ [x] else ns)) ∧ (∀ g, vL'.ownBlock = some g → ¬ Ro sv nv g) := by
  by_cases hc : putCode m o ss ns x.length = 0
  · rw [if_pos hc, hc]
    refine (rput_yes W w vL (ss ++ ns) k.rr ss.length f m o t0 v x hv k.cnt k.len300 hx (by rw [putR_eq]; exact hc)).mono ?_
    rintro e w' ⟨vL', rfl, h1, h2, h3⟩
    exact ⟨vL', rfl, k.below h2, h2, by rw [← List.append_assoc]; exact h1, k.apN (fun g hg => .inr (h3 g hg))⟩
  · rw [if_neg hc]
    refine (rput_no W w vL (ss ++ ns) k.rr ss.length f m o t0 v x (hv.below k.bel) k.cnt k.len300 hx (by rw [putR_eq]; exact hc)).mono ?_
    rintro e w' ⟨rfl, h2⟩
    exact ⟨vL, by rw [putR_eq], k.below h2, h2, k.rr.below h2, k.ap⟩
theorem PW.rsend {W w : World} {h s : Nat} {m o f : Int} {sv nv vL : Value} {ss ns : List (List Int)} (k : PW W w h s m o f sv nv vL ss ns) :
    Calls Try.prog 29 #[.agg (sdc vL ss.length f m o t0).toArray] w fun e w' => e = .returned (.tuple #[.agg (sdc vL (if ns = [] then (ss.length : Int) else if 127 ≤ ss.length then (ss.length : Int) else (ss.length : Int) + 1) f m o t0).toArray, .int .i64 (if ns = [] then 2 else if 127 ≤ ss.length then 3 else 0)]) ∧ PW W w' h s m o f sv nv vL ss ns ∧ Below w.heap.size w w' ∧ RR W w' vL (ss ++ ns) := by
  obtain ⟨a, c, rfl⟩ := k.rr.shape
  refine (Go.Proofs.Ytadheikcgdhcdaa.rsend a (ss ++ ns).length c ss.length f m o t0 w (by omega) k.cnt).mono ?_
  rintro e w' ⟨rfl, hb⟩
  refine ⟨?_, k.below hb, hb, k.rr.below hb⟩
  have e1 : (((ss ++ ns).length : Nat) : Int) ≤ (ss.length : Int) ↔ ns = [] := by
    rw [List.length_append]
    constructor
    · intro h
      exact List.eq_nil_of_length_eq_zero (by omega)
    · rintro rfl
      simp
  have e2 : (127 : Int) ≤ (ss.length : Int) ↔ 127 ≤ ss.length := by omega
  by_cases h1 : ns = []
  · rw [if_pos (e1.2 h1), if_pos (e1.2 h1), if_pos h1, if_pos h1]
  · rw [if_neg (fun hh => h1 (e1.1 hh)), if_neg (fun hh => h1 (e1.1 hh)), if_neg h1, if_neg h1]
    by_cases h2 : 127 ≤ ss.length
    · rw [if_pos (e2.2 h2), if_pos (e2.2 h2), if_pos h2, if_pos h2]
    · rw [if_neg (fun hh => h2 (e2.1 hh)), if_neg (fun hh => h2 (e2.1 hh)), if_neg h2, if_neg h2]
theorem PW.rfree {W w : World} {h s : Nat} {m o f : Int} {sv nv vL : Value} {ss ns : List (List Int)} (k : PW W w h s m o f sv nv vL ss ns) (n : Int) (hn : 0 ≤ n ∧ n ≤ 255) (i : Nat) (hk : knowsB f ss.length n = true) (hi : (n - f + 1) % 128 = i) :
    Calls Try.prog 32 #[.agg (sdc vL ss.length f m o t0).toArray, .int .i64 n] w fun e w' => ∃ vL', e = .returned (.tuple #[.agg (sdc vL' (ss.drop i).length ((n + 1) % 128) m o t0).toArray, .int .i64 i]) ∧ PW W w' h s m o f sv nv vL ss ns ∧ Below w.heap.size w w' ∧ RR W w' vL' (ss.drop i ++ ns) ∧ (∀ g, vL'.ownBlock = some g → ¬ Ro sv nv g) := by
  have hk2 : n < 128 ∧ (n - f + 1) % 128 ≤ ss.length := by simpa [knowsB] using hk
  have hb := knows_beh f ss.length n hn.1
  rw [hk, if_pos rfl, hi] at hb
  have hfin := k.hx.fin
  refine (rfree_yes W w vL (ss ++ ns) k.rr ss.length f m o t0 n (by omega) hfin i hb (by rw [List.length_append]; omega) (by omega) k.cnt).mono ?_
  rintro e w' ⟨vL', rfl, h1, h2, h3⟩
  refine ⟨vL', ?_, k.below h2, h2, by rw [← List.drop_append_of_le_length (by omega)]; exact h1, k.apN (fun g hg => .inl (h3 g hg))⟩
  have e1 : (ss.length : Int) - (i : Int) = ((ss.drop i).length : Int) := by rw [List.length_drop]; omega
  have e2 : (f + (i : Int)) % 128 = (n + 1) % 128 := by omega
  rw [e1, e2]
theorem PW.rfree_no {W w : World} {h s : Nat} {m o f : Int} {sv nv vL : Value} {ss ns : List (List Int)} (k : PW W w h s m o f sv nv vL ss ns) (n : Int) (hn : 0 ≤ n ∧ n ≤ 255) (hk : knowsB f ss.length n = false) :
    Calls Try.prog 32 #[.agg (sdc vL ss.length f m o t0).toArray, .int .i64 n] w fun e w' => e = .returned (.tuple #[.agg (sdc vL ss.length f m o t0).toArray, .int .i64 (-1)]) ∧ PW W w' h s m o f sv nv vL ss ns ∧ Below w.heap.size w w' := by
  have hb := knows_beh f ss.length n hn.1
  rw [hk, if_neg (by decide)] at hb
  obtain ⟨a, c, rfl⟩ := k.rr.shape
  refine (Go.Proofs.Ytadheikcgdhcdaa.rfree_no a (ss ++ ns).length c ss.length f m o t0 n w (by omega) k.hx.fin hb).mono ?_
  rintro e w' ⟨rfl, h2⟩
  exact ⟨rfl, k.below h2, h2⟩
theorem PW.rflush {W w : World} {h s : Nat} {m o f : Int} {sv nv vL : Value} {ss ns : List (List Int)} (k : PW W w h s m o f sv nv vL ss ns) (w0 : World) (vL0 : Value) (hR : RR W w0 vL0 (ss ++ ns)) (hs : (ss ++ ns).length ≤ 1000) :
    Calls Try.prog 34 #[.agg (sdc vL0 ss.length f m o t0).toArray] w0 fun e w' => ∃ vL', e = .returned (.agg (sdc vL' ss.length f m o t0).toArray) ∧ RR W w' vL' (ss ++ []) ∧ Below w0.heap.size w0 w' ∧ (∀ g, vL'.ownBlock = some g → vL0.ownBlock = some g) := by
  refine (Go.Proofs.Ytadheikcgdhcdaa.rflush W w0 vL0 (ss ++ ns) hR ss.length f m o t0 (by rw [List.length_append]; omega) hs).mono ?_
  rintro e w' ⟨vL', rfl, h1, h2, h3⟩
  exact ⟨vL', rfl, by rw [List.append_nil]; rw [List.take_left'] at h1; exact h1; rfl, h2, h3⟩
end Go.Proofs.Ytadheikcgdhcdaa
