/-
  AlignMeets: two sides with their clocks, and two lines, in one.
-/
import Derived.Test.YtpalpoecakijnaaMeetsP
import Derived.Deep.AppendLies
namespace Go.Proofs.Ytpalpoecakijnaa
open Go.RowKit
set_option linter.unusedVariables false
set_option linter.unusedSimpArgs false

theorem own_fr {S : Nat → Prop} {w w' : World} {base : Nat} {e : TypeId} {size n : Nat} {v : Value} {xs : List Value} (h : w.ownsRow base e size v n xs) (hF : Fr S w w') (hS : ∀ k, v.ownBlock = some k → k < w.heap.size → ¬ S k) : w'.ownsRow base e size v n xs := by
  refine ⟨h.1, ?_⟩
  rcases h.2 with ⟨h1, h2⟩ | ⟨g, cap, cur, rfl, hb, hh, h1, h2, h3, h4⟩
  · exact .inl ⟨h1, h2⟩
  · have hlt : g < w.heap.size := (Array.getElem?_eq_some_iff.1 hh).1
    exact .inr ⟨g, cap, cur, rfl, hb, by rw [hF.block g hlt (hS g rfl hlt)]; exact hh, h1, h2, h3, h4⟩
theorem own_at {w : World} {base : Nat} {e : TypeId} {n : Nat} {v : Value} {xs : List Value} (h : w.ownsRow base e 1 v n xs) (u : Nat) (x : Value) (hu : xs[u]? = some x) : ∃ g cap, v = .slice (some ⟨g, 0, none⟩) n cap ∧ base ≤ g ∧ w.cell? ⟨g, u, none⟩ = some x := by
  have hl := h.1
  have hlt : u < xs.length := (List.getElem?_eq_some_iff.1 hu).1
  rcases h.2 with ⟨h1, h2⟩ | ⟨g, cap, cur, rfl, hb, hh, h1, h2, h3, h4⟩
  · omega
  · refine ⟨g, cap, rfl, hb, ?_⟩
    rw [← h4] at hu
    rw [List.getElem?_take] at hu
    split at hu
    · simp [World.cell?, hh]
      simpa using hu
    · cases hu

/-- The places: the clocks' array, the sides', the lines', each clock and side; the lines' rows lie behind base. -/
structure MA (B KC KA KL : Nat) (C J : Nat → Nat) (base : Nat) : Prop where
  lo : B ≤ KC ∧ B ≤ KA ∧ B ≤ KL
  lo2 : ∀ i, i < 2 → B ≤ C i ∧ B ≤ J i
  hi : KC < base ∧ KA < base ∧ KL < base
  hi2 : ∀ i, i < 2 → C i < base ∧ J i < base
  ne : ∀ i, i < 2 → KC ≠ C i ∧ KC ≠ J i ∧ KA ≠ C i ∧ KA ≠ J i ∧ KL ≠ C i ∧ KL ≠ J i
  kk : KC ≠ KL ∧ KA ≠ KL
  cj : ∀ i k, i < 2 → k < 2 → C i ≠ J k
  cc : ∀ i k, i < 2 → k < 2 → i ≠ k → C i ≠ C k ∧ J i ≠ J k

def rowsOf (f : Nat → Int) (n : Nat) : List Value := (List.range n).map fun t => Value.int .u8 (f t)
theorem rowsOf_succ (f : Nat → Int) (n : Nat) : rowsOf f n ++ [.int .u8 (f n)] = rowsOf f (n + 1) := by
  unfold rowsOf; rw [List.range_succ, List.map_append]; rfl
theorem rowsOf_at (f : Nat → Int) (n u : Nat) (h : u < n) : (rowsOf f n)[u]? = some (.int .u8 (f u)) := by
  unfold rowsOf; simp [h]

structure MW (w0 w : World) (KC KA KL : Nat) (C J : Nat → Nat) (base : Nat) (s : Nat → AS) (m : Nat → Nat) (f : Nat → Nat → Int) (v : Nat → Value) : Prop where
  ad : MA w0.heap.size KC KA KL C J base
  kc : Blk w KC [.pointer (some ⟨C 0, 0, none⟩), .pointer (some ⟨C 1, 0, none⟩)] 67
  ka : Blk w KA [.pointer (some ⟨J 0, 0, none⟩), .pointer (some ⟨J 1, 0, none⟩)] 68
  kl : Blk w KL [v 0, v 1] 69
  ac : ∀ i, i < 2 → AC w (J i) (C i) uS mT (s i)
  rows : ∀ i, i < 2 → w.ownsRow base 5 1 (v i) (m i) (rowsOf (f i) (m i))
  sep : ∀ k, (v 0).ownBlock = some k → (v 1).ownBlock = some k → False
  bel : Below w0.heap.size w0 w
  big : base ≤ w.heap.size

section
variable {w0 w w' : World} {KC KA KL base : Nat} {C J : Nat → Nat} {s : Nat → AS} {m : Nat → Nat} {f : Nat → Nat → Int} {v : Nat → Value}
theorem MW.clk (h : MW w0 w KC KA KL C J base s m f v) (i : Nat) (hi : i < 2) : w.cell? ⟨KC, i, none⟩ = some (.pointer (some ⟨C i, 0, none⟩)) := by
  refine h.kc.cell i ?_
  rcases (by omega : i = 0 ∨ i = 1) with rfl | rfl <;> rfl
theorem MW.alg (h : MW w0 w KC KA KL C J base s m f v) (i : Nat) (hi : i < 2) : w.cell? ⟨KA, i, none⟩ = some (.pointer (some ⟨J i, 0, none⟩)) := by
  refine h.ka.cell i ?_
  rcases (by omega : i = 0 ∨ i = 1) with rfl | rfl <;> rfl
theorem MW.lin (h : MW w0 w KC KA KL C J base s m f v) (i : Nat) (hi : i < 2) : w.cell? ⟨KL, i, none⟩ = some (v i) := by
  refine h.kl.cell i ?_
  rcases (by omega : i = 0 ∨ i = 1) with rfl | rfl <;> rfl
theorem MW.lfz (h : MW w0 w KC KA KL C J base s m f v) (i : Nat) : w.frozen? ⟨KL, i, none⟩ = false := h.kl.frozen i
theorem MW.own (h : MW w0 w KC KA KL C J base s m f v) (i : Nat) (hi : i < 2) (k : Nat) (hk : (v i).ownBlock = some k) : base ≤ k ∧ k < w.heap.size := by
  rcases (h.rows i hi).2 with ⟨h1, h2⟩ | ⟨g, cap, cur, hv, hb, hh, h1, h2, h3, h4⟩
  · rw [h1] at hk; cases hk
  · rw [hv] at hk
    have : g = k := by simpa [Value.ownBlock] using hk
    subst this
    exact ⟨hb, (Array.getElem?_eq_some_iff.1 hh).1⟩
/-- What changes only blocks of one side. -/
theorem MW.side (h : MW w0 w KC KA KL C J base s m f v) (i : Nat) (hi : i < 2) {s' : AS} (hA : AC w' (J i) (C i) uS mT s') (hF : Fr (two (J i) (C i)) w w') : MW w0 w' KC KA KL C J base (fun k => if k = i then s' else s k) m f v := by
  have hn := h.ad.ne i hi
  have hb := h.ad.hi2 i hi
  have hl := h.ad.lo2 i hi
  refine ⟨h.ad, h.kc.fr hF (by rintro (e | e); exact hn.2.1 e; exact hn.1 e), h.ka.fr hF (by rintro (e | e); exact hn.2.2.2.1 e; exact hn.2.2.1 e), h.kl.fr hF (by rintro (e | e); exact hn.2.2.2.2.2 e; exact hn.2.2.2.2.1 e), ?_, ?_, h.sep, ?_, Nat.le_trans h.big hF.size⟩
  · intro k hk
    by_cases e : k = i
    · subst e
      simp only [if_true]
      exact hA
    · simp only [if_neg e]
      have hc := h.ad.cc k i hk hi e
      have h1 := h.ad.cj k i hk hi
      have h2 := h.ad.cj i k hi hk
      exact (h.ac k hk).fr hF (by rintro (e | e); exact hc.2 e; exact h2 e.symm) (by rintro (e | e); exact h1 e; exact hc.1 e)
  · intro k hk
    refine own_fr (h.rows k hk) hF ?_
    intro q hq _ hS
    have := (h.own k hk q hq).1
    rcases hS with e | e <;> omega
  · exact h.bel.trans (hF.two_below hl.2 hl.1 h.bel.size)
theorem MW.st (h : MW w0 w KC KA KL C J base s m f v) {s2 : Nat → AS} (e : ∀ k, k < 2 → s2 k = s k) : MW w0 w KC KA KL C J base s2 m f v :=
  ⟨h.ad, h.kc, h.ka, h.kl, fun i hi => by rw [e i hi]; exact h.ac i hi, h.rows, h.sep, h.bel, h.big⟩
theorem MW.len (h : MW w0 w KC KA KL C J base s m f v) {m2 : Nat → Nat} (e : ∀ k, k < 2 → m2 k = m k) : MW w0 w KC KA KL C J base s m2 f v :=
  ⟨h.ad, h.kc, h.ka, h.kl, h.ac, fun i hi => by rw [e i hi]; exact h.rows i hi, h.sep, h.bel, h.big⟩
theorem MW.tick (h : MW w0 w KC KA KL C J base s m f v) (i : Nat) (hi : i < 2) {l : List Int} (hC : Ck w' (C i) l) (hF : Fr (· = C i) w w') : MW w0 w' KC KA KL C J base (fun k => if k = i then { s i with l := l } else s k) m f v :=
  h.side i hi ((h.ac i hi).clk hF hC) hF.toTwo
theorem MW.drewN (h : MW w0 w KC KA KL C J base s m f v) (n : Nat) : MW w0 (w.drewN n) KC KA KL C J base s m f v :=
  ⟨h.ad, h.kc.drewN n, h.ka.drewN n, h.kl.drewN n, fun i hi => (h.ac i hi).drewN n, h.rows, h.sep, below_drewN h.bel n, h.big⟩
theorem MW.drew (h : MW w0 w KC KA KL C J base s m f v) : MW w0 w.drew KC KA KL C J base s m f v :=
  ⟨h.ad, h.kc.drew, h.ka.drew, h.kl.drew, fun i hi => (h.ac i hi).drew, h.rows, h.sep, ⟨h.bel.os, h.bel.tape, h.bel.output, h.bel.size, h.bel.block⟩, h.big⟩
theorem MW.alloc (h : MW w0 w KC KA KL C J base s m f v) (o : Obj) : MW w0 (w.alloc o) KC KA KL C J base s m f v :=
  ⟨h.ad, h.kc.alloc o, h.ka.alloc o, h.kl.alloc o, fun i hi => (h.ac i hi).alloc o, fun i hi => own_fr (h.rows i hi) ((Fr.refl (fun _ => False) w).alloc o) (fun _ _ _ h => h), h.sep, h.bel.alloc h.bel.size o, by have := h.big; simp only [World.size_alloc]; omega⟩
/-- One more octet on a line. -/
theorem MW.line (h : MW w0 w KC KA KL C J base s m f v) (i : Nat) (hi : i < 2) {g cap : Nat} {x : Value} (hx : x = .int .u8 (f i (m i)))
    (hO : w'.ownsRow base 5 1 (.slice (some ⟨g, 0, none⟩) (m i + 1) cap) (m i + 1) (rowsOf (f i) (m i) ++ [x])) (hg : w.grownBy w' (v i).ownBlock) (hat : (v i).ownBlock = some g ∨ g = w.heap.size) :
    MW w0 (w'.setCell ⟨KL, i, none⟩ (.slice (some ⟨g, 0, none⟩) (m i + 1) cap)) KC KA KL C J base s (fun k => if k = i then m i + 1 else m k) f (fun k => if k = i then .slice (some ⟨g, 0, none⟩) (m i + 1) cap else v k) := by
  have hbig := h.big
  have hF1 : Fr (fun k => (v i).ownBlock = some k) w w' := (Fr.refl _ w).grown hg (fun k e => .inl e)
  have hF := hF1.mono (S' := fun k => (v i).ownBlock = some k ∨ k = KL) (fun k e => .inl e)
  have hF2 : Fr (fun k => (v i).ownBlock = some k ∨ k = KL) w (w'.setCell ⟨KL, i, none⟩ (.slice (some ⟨g, 0, none⟩) (m i + 1) cap)) := hF.setCell (.inl (.inr rfl)) _
  have hown := h.own i hi
  have hlo : ∀ k, k < base → k ≠ KL → ¬ ((v i).ownBlock = some k ∨ k = KL) := by
    rintro k h1 h2 (e | e)
    · have := (hown k e).1; omega
    · exact h2 e
  have hh := h.ad.hi
  have hkk := h.ad.kk
  refine ⟨h.ad, h.kc.fr hF2 (hlo _ hh.1 hkk.1), h.ka.fr hF2 (hlo _ hh.2.1 hkk.2), ?_, ?_, ?_, ?_, ?_, Nat.le_trans h.big hF2.size⟩
  · have hk := (h.kl.fr hF1 (fun e => by have := (hown _ e).1; omega)).set i (.slice (some ⟨g, 0, none⟩) (m i + 1) cap)
    refine hk.as ?_
    rcases (by omega : i = 0 ∨ i = 1) with rfl | rfl <;> simp
  · intro k hk
    have hn := h.ad.ne k hk
    have h2 := h.ad.hi2 k hk
    exact (h.ac k hk).fr hF2 (hlo _ h2.2 (fun e => hn.2.2.2.2.2 e.symm)) (hlo _ h2.1 (fun e => hn.2.2.2.2.1 e.symm))
  · intro k hk
    by_cases e : k = i
    · subst e
      simp only [if_true]
      rw [hx, rowsOf_succ] at hO
      refine own_fr hO (Fr.set1 w' ⟨KL, k, none⟩ _) ?_
      intro q hq _ e
      have e2 : q = KL := e
      have : g = q := by simpa [Value.ownBlock] using hq
      rcases hat with ha | ha
      · have := (hown _ ha).1; omega
      · omega
    · simp only [if_neg e]
      refine own_fr (h.rows k hk) hF2 ?_
      intro q hq _ hS
      rcases hS with hS | hS
      · rcases (by omega : (k = 0 ∧ i = 1) ∨ (k = 1 ∧ i = 0)) with ⟨rfl, rfl⟩ | ⟨rfl, rfl⟩
        · exact h.sep q hq hS
        · exact h.sep q hS hq
      · have := (h.own k hk q hq).1; omega
  · intro q h1 h2
    rcases (by omega : i = 0 ∨ i = 1) with rfl | rfl
    · simp only [if_true, Nat.one_ne_zero, if_false] at h1 h2
      have hgq : g = q := by simpa [Value.ownBlock] using h1
      rcases hat with ha | ha
      · rw [hgq] at ha; exact h.sep q ha h2
      · have := (h.own 1 (by omega) q h2).2; omega
    · simp only [if_true, Nat.zero_ne_one, if_false] at h1 h2
      have hgq : g = q := by simpa [Value.ownBlock] using h2
      rcases hat with ha | ha
      · rw [hgq] at ha; exact h.sep q h1 ha
      · have := (h.own 0 (by omega) q h1).2; omega
  · exact h.bel.trans (hF2.below h.bel.size (by
      rintro k (e | e)
      · have := (hown k e).1; have := h.ad.lo; omega
      · rw [e]; exact h.ad.lo.2.2))
end
end Go.Proofs.Ytpalpoecakijnaa
