/-
  AlignMeets: two that tell one another come into line, and are proved, within a way and the time of proving.
-/
import Derived.Test.YtpalpoecakijnaaMeetsW
import Derived.Deep.RegionLaw
namespace Go.Proofs.Ytpalpoecakijnaa
open Go.RowKit
set_option linter.unusedVariables false
set_option linter.unusedSimpArgs false

theorem wrapM (n : Int) (h : -1000 ≤ n ∧ n ≤ 1000) : IntKind.i64.wrap n = n := by
  simp [IntKind.wrap, IntKind.bits, IntKind.signed]
  split <;> omega

abbrev mSet : List Value := [.bool false, .int .i64 8, .int .i64 300, .int .i64 16, .int .i64 600, .int .i64 30, .int .i64 999, .int .i64 900, .int .i64 900, .int .i64 50, .int .i64 5, .int .i64 9, .int .i64 9]
abbrev aIdle : AS := ⟨0, false, false, false, 0, 0, [0, 0, 0, 0, 0, 0, 0, 0]⟩
/-- So many sides are made. -/
structure SU (w0 w : World) (KS KC KA : Nat) (C J : Nat → Nat) (n : Nat) : Prop where
  ks : Blk w KS mSet 34
  kc : Blk w KC [if 0 < n then .pointer (some ⟨C 0, 0, none⟩) else .pointer none, if 1 < n then .pointer (some ⟨C 1, 0, none⟩) else .pointer none] 67
  ka : Blk w KA [if 0 < n then .pointer (some ⟨J 0, 0, none⟩) else .pointer none, if 1 < n then .pointer (some ⟨J 1, 0, none⟩) else .pointer none] 68
  ac : ∀ i, i < n → AC w (J i) (C i) uS mT aIdle
  lo : w0.heap.size ≤ KS ∧ KS < KC ∧ KC < KA
  pos : ∀ i, i < n → KA < C i ∧ C i < J i ∧ J i < w.heap.size
  ord : 1 < n → J 0 < C 1
  bel : Below w0.heap.size w0 w

theorem SU.cl {w0 w : World} {KS KC KA n : Nat} {C J : Nat → Nat} (h : SU w0 w KS KC KA C J n) (hn : n < 2) :
    SU w0 w KS KC KA C J n ∧ w.cell? ⟨KC, n, none⟩ = some (.pointer none) ∧ w.cell? ⟨KA, n, none⟩ = some (.pointer none) ∧ (∀ k, w.frozen? ⟨KC, k, none⟩ = false) ∧ (∀ k, w.frozen? ⟨KA, k, none⟩ = false) := by
  refine ⟨h, h.kc.cell n ?_, h.ka.cell n ?_, h.kc.frozen, h.ka.frozen⟩ <;> rcases (by omega : n = 0 ∨ n = 1) with rfl | rfl <;> rfl
theorem SU.step {w0 w w3 : World} {KS KC KA n : Nat} {C J : Nat → Nat} (h : SU w0 w KS KC KA C J n) (hn : n < 2) {j : Nat}
    (hj : w.heap.size + 1 ≤ j) (hA : AC w3 j w.heap.size uS mT aIdle) (o : Obj)
    (hb : Below (w.heap.size + 1) ((w.setCell ⟨KC, n, none⟩ (.pointer (some ⟨w.heap.size, 0, none⟩))).alloc o) w3) :
    SU w0 (w3.setCell ⟨KA, n, none⟩ (.pointer (some ⟨j, 0, none⟩))) KS KC KA (fun k => if k = n then w.heap.size else C k) (fun k => if k = n then j else J k) (n + 1) := by
  have hlo := h.lo
  have hka := h.ka.lt
  have hjl := hA.blk.lt
  have hB1 : Below (w.heap.size + 1) ((w.setCell ⟨KC, n, none⟩ (.pointer (some ⟨w.heap.size, 0, none⟩))).alloc o) w3 := hb
  have hF : Fr (fun _ => False) ((w.setCell ⟨KC, n, none⟩ (.pointer (some ⟨w.heap.size, 0, none⟩))).alloc o) w3 := ⟨hb.os, hb.tape, hb.output, hb.size, fun k hk _ => hb.block k (by simpa [World.setCell] using hk)⟩
  have hF0 : Fr (fun k => k = KC) w ((w.setCell ⟨KC, n, none⟩ (.pointer (some ⟨w.heap.size, 0, none⟩))).alloc o) := ((Fr.refl (fun k => k = KC) w).setCell (p := ⟨KC, n, none⟩) (.inl rfl) _).alloc o
  have hF1 : Fr (fun k => k = KC) w w3 := hF0.then_ (hF.mono (fun _ h => h.elim))
  have hF2 : Fr (fun k => k = KC ∨ k = KA) w (w3.setCell ⟨KA, n, none⟩ (.pointer (some ⟨j, 0, none⟩))) := (hF1.mono (fun _ h => .inl h)).setCell (.inl (.inr rfl)) _
  have hkc := (h.kc.set n (.pointer (some ⟨w.heap.size, 0, none⟩))).alloc o
  refine ⟨h.ks.fr hF2 (by rintro (e | e) <;> omega), ?_, ?_, ?_, hlo, ?_, ?_, ?_⟩
  · have := (hkc.fr hF (fun h => h)).other (a := ⟨KA, n, none⟩) (by show KC ≠ KA; omega) (.pointer (some ⟨j, 0, none⟩))
    refine this.as ?_
    rcases (by omega : n = 0 ∨ n = 1) with rfl | rfl <;> simp
  · have := (h.ka.fr hF1 (by omega)).set n (.pointer (some ⟨j, 0, none⟩))
    refine this.as ?_
    rcases (by omega : n = 0 ∨ n = 1) with rfl | rfl <;> simp
  · intro i hi
    have hF3 := Fr.set1 w3 ⟨KA, n, none⟩ (.pointer (some ⟨j, 0, none⟩))
    by_cases e : i = n
    · subst e
      simp only [if_true]
      exact hA.fr hF3 (by show ¬ j = KA; omega) (by show ¬ w.heap.size = KA; omega)
    · simp only [if_neg e]
      have hp := h.pos i (by omega)
      exact (h.ac i (by omega)).fr hF2 (by rintro (e | e) <;> omega) (by rintro (e | e) <;> omega)
  · intro i hi
    have hsz : (w3.setCell ⟨KA, n, none⟩ (.pointer (some ⟨j, 0, none⟩))).heap.size = w3.heap.size := by simp [World.setCell]
    have hs3 := hF1.size
    rw [hsz]
    by_cases e : i = n
    · subst e
      simp only [if_true]
      omega
    · simp only [if_neg e]
      have hp := h.pos i (by omega)
      omega
  · intro h1
    have : n = 1 := by omega
    subst this
    have hp := h.pos 0 (by omega)
    simp
    omega
  · exact h.bel.trans (hF2.below h.bel.size (by rintro k (e | e) <;> omega))

def pk {α : Type} (a b : α) (k : Nat) : α := if k = 0 then a else b
/-- Both made. -/
structure S2 (w0 w : World) (KC KA c0 j0 c1 j1 : Nat) (s0 s1 : AS) : Prop where
  kc : Blk w KC [.pointer (some ⟨c0, 0, none⟩), .pointer (some ⟨c1, 0, none⟩)] 67
  ka : Blk w KA [.pointer (some ⟨j0, 0, none⟩), .pointer (some ⟨j1, 0, none⟩)] 68
  a0 : AC w j0 c0 uS mT s0
  a1 : AC w j1 c1 uS mT s1
  lo : w0.heap.size ≤ KC ∧ KC < KA ∧ KA < c0 ∧ c0 < j0 ∧ j0 < c1 ∧ c1 < j1
  bel : Below w0.heap.size w0 w
theorem SU.both {w0 w : World} {KS KC KA : Nat} {C J : Nat → Nat} (h : SU w0 w KS KC KA C J 2) : S2 w0 w KC KA (C 0) (J 0) (C 1) (J 1) aIdle aIdle := by
  have h0 := h.pos 0 (by omega)
  have h1 := h.pos 1 (by omega)
  have ho := h.ord (by omega)
  have hl := h.lo
  exact ⟨h.kc.as (by simp), h.ka.as (by simp), h.ac 0 (by omega), h.ac 1 (by omega), by omega, h.bel⟩
theorem S2.one {w0 w w' : World} {KC KA c0 j0 c1 j1 : Nat} {s0 s1 s' : AS} (h : S2 w0 w KC KA c0 j0 c1 j1 s0 s1) (hA : AC w' j0 c0 uS mT s') (hF : Fr (two j0 c0) w w') : S2 w0 w' KC KA c0 j0 c1 j1 s' s1 := by
  have hl := h.lo
  exact ⟨h.kc.fr hF (by rintro (e | e) <;> omega), h.ka.fr hF (by rintro (e | e) <;> omega), hA, h.a1.fr hF (by rintro (e | e) <;> omega) (by rintro (e | e) <;> omega), hl, h.bel.trans (hF.two_below (by omega) (by omega) h.bel.size)⟩
theorem S2.other {w0 w w' : World} {KC KA c0 j0 c1 j1 : Nat} {s0 s1 s' : AS} (h : S2 w0 w KC KA c0 j0 c1 j1 s0 s1) (hA : AC w' j1 c1 uS mT s') (hF : Fr (two j1 c1) w w') : S2 w0 w' KC KA c0 j0 c1 j1 s0 s' := by
  have hl := h.lo
  exact ⟨h.kc.fr hF (by rintro (e | e) <;> omega), h.ka.fr hF (by rintro (e | e) <;> omega), h.a0.fr hF (by rintro (e | e) <;> omega) (by rintro (e | e) <;> omega), hA, hl, h.bel.trans (hF.two_below (by omega) (by omega) h.bel.size)⟩
/-- And a block for the lines behind all. -/
theorem S2.done {w0 w : World} {KC KA c0 j0 c1 j1 : Nat} {s0 s1 : AS} (h : S2 w0 w KC KA c0 j0 c1 j1 s0 s1) (f : Nat → Nat → Int) :
    MW w0 (w.alloc (.cells #[.slice none 0 0, .slice none 0 0] 69)) KC KA w.heap.size (pk c0 c1) (pk j0 j1) (w.heap.size + 1) (pk s0 s1) (fun _ => 0) f (fun _ => .slice none 0 0) := by
  have hl := h.lo
  have hK := h.a1.blk.lt
  refine ⟨⟨by omega, ?_, by omega, ?_, ?_, by omega, ?_, ?_⟩, h.kc.alloc _, h.ka.alloc _, Blk.new w [.slice none 0 0, .slice none 0 0] 69, ?_, fun i hi => ⟨by simp [rowsOf], .inl ⟨rfl, rfl⟩⟩, fun k hk => (by cases hk), h.bel.alloc h.bel.size _, by simp⟩
  · intro i hi; unfold pk; split <;> omega
  · intro i hi; unfold pk; split <;> omega
  · intro i hi; unfold pk; split <;> omega
  · intro i k hi hk
    unfold pk; split <;> split <;> omega
  · intro i k hi hk e
    unfold pk
    rcases (by omega : i = 0 ∨ i = 1) with rfl | rfl <;> rcases (by omega : k = 0 ∨ k = 1) with rfl | rfl <;> simp <;> omega
  · intro i hi
    rcases (by omega : i = 0 ∨ i = 1) with rfl | rfl
    · exact h.a0.alloc _
    · exact h.a1.alloc _

theorem SU.new {w0 w : World} (hB : Below w0.heap.size w0 w) (C J : Nat → Nat) :
    SU w0 (((w.alloc (.cells #[.bool false, .int .i64 8, .int .i64 300, .int .i64 16, .int .i64 600, .int .i64 30, .int .i64 999, .int .i64 900, .int .i64 900, .int .i64 50, .int .i64 5, .int .i64 9, .int .i64 9] 34)).alloc (.cells #[.pointer none, .pointer none] 67)).alloc (.cells #[.pointer none, .pointer none] 68)) w.heap.size (w.heap.size + 1) (w.heap.size + 1 + 1) C J 0 := by
  have hs := hB.size
  have h1 := Blk.new w mSet 34
  have h2 := Blk.new (w.alloc (.cells #[.bool false, .int .i64 8, .int .i64 300, .int .i64 16, .int .i64 600, .int .i64 30, .int .i64 999, .int .i64 900, .int .i64 900, .int .i64 50, .int .i64 5, .int .i64 9, .int .i64 9] 34)) [.pointer none, .pointer none] 67
  have h3 := Blk.new ((w.alloc (.cells #[.bool false, .int .i64 8, .int .i64 300, .int .i64 16, .int .i64 600, .int .i64 30, .int .i64 999, .int .i64 900, .int .i64 900, .int .i64 50, .int .i64 5, .int .i64 9, .int .i64 9] 34)).alloc (.cells #[.pointer none, .pointer none] 67)) [.pointer none, .pointer none] 68
  simp only [World.size_alloc] at h2 h3
  exact ⟨(h1.alloc _).alloc _, h2.alloc _, h3, fun i hi => absurd hi (Nat.not_lt_zero i), by omega, fun i hi => absurd hi (Nat.not_lt_zero i), fun h => absurd h (by omega), ((hB.alloc hs _).alloc (by simp; omega) _).alloc (by simp; omega) _⟩
theorem infoM5 : (Try.prog.info? 5).map (fun i => (i.zero, i.size, i.bytes)) = some (some (.int .u8 0), 1, 1) := by kernel_rfl
/-- How many are proved ahead of tick t. -/
theorem sends_same (j c : Nat) (S : List Value) (T : List Int) (s : AS) (q : Int) (w : World) (h : AC w j c S T s) (hq : aSends s = q) :
    Calls Try.prog 40 #[.pointer (some ⟨j, 0, none⟩)] w fun e w' => e = .returned (.int .u8 q) ∧ w' = w :=
  (asends_any j c S T s w h).mono fun _ _ ⟨h1, h2⟩ => ⟨by rw [h1, hq], h2.symm⟩
def cN (own oth : Bool) (d g : Int) (k : Nat) (t : Int) : Int := if mE own oth d g k < t then 1 else 0

theorem cN_same {own oth : Bool} {d g : Int} {k n : Nat} (h : (n : Int) ≠ mE own oth d g k) : cN own oth d g k ((n + 1 : Nat) : Int) = cN own oth d g k n := by
  unfold cN
  by_cases e : mE own oth d g k < n
  · rw [if_pos e, if_pos (by omega)]
  · rw [if_neg e, if_neg (by omega)]
theorem cN_more {own oth : Bool} {d g : Int} {k n : Nat} (h : (n : Int) = mE own oth d g k) : cN own oth d g k ((n + 1 : Nat) : Int) = cN own oth d g k n + 1 := by
  unfold cN
  rw [if_pos (by omega), if_neg (by omega)]
  rfl
def cS (own oth : Bool) (d g : Int) (n u : Nat) : Int := cN own oth d g 0 ((if 0 < u then n + 1 else n : Nat) : Int) + cN own oth d g 1 ((if 1 < u then n + 1 else n : Nat) : Int)
theorem cS_same {own oth : Bool} {d g : Int} {u n : Nat} (hu : u < 2) (h : (n : Int) ≠ mE own oth d g u) : cS own oth d g n (u + 1) = cS own oth d g n u := by
  unfold cS
  rcases (by omega : u = 0 ∨ u = 1) with rfl | rfl
  · rw [if_pos (by omega), if_neg (by omega), if_neg (by omega), if_neg (by omega), cN_same h]
  · rw [if_pos (by omega), if_pos (by omega), if_pos (by omega), if_neg (by omega), cN_same h]
theorem cS_more {own oth : Bool} {d g : Int} {u n : Nat} (hu : u < 2) (h : (n : Int) = mE own oth d g u) : cS own oth d g n (u + 1) = cS own oth d g n u + 1 := by
  unfold cS
  rcases (by omega : u = 0 ∨ u = 1) with rfl | rfl
  · rw [if_pos (by omega), if_neg (by omega), if_neg (by omega), if_neg (by omega), cN_more h]; omega
  · rw [if_pos (by omega), if_pos (by omega), if_pos (by omega), if_neg (by omega), cN_more h]; omega
theorem cS_bd (own oth : Bool) (d g : Int) (n u : Nat) : 0 ≤ cS own oth d g n u ∧ cS own oth d g n u ≤ 2 := by
  unfold cS cN
  split <;> split <;> omega
theorem sides_next {A B : Nat → AS → Prop} {s3 : Nat → AS} {u : Nat} {s5 : AS} (hS : ∀ k, k < 2 → (k < u → A k (s3 k)) ∧ (u ≤ k → B k (s3 k))) (hu : A u s5) :
    ∀ k, k < 2 → (k < u + 1 → A k (if k = u then s5 else s3 k)) ∧ (u + 1 ≤ k → B k (if k = u then s5 else s3 k)) := by
  intro k hk
  by_cases e : k = u
  · subst e
    rw [if_pos rfl]
    exact ⟨fun _ => hu, fun h => absurd h (by omega)⟩
  · rw [if_neg e]
    exact ⟨fun h => (hS k hk).1 (by omega), fun h => (hS k hk).2 (by omega)⟩

set_option maxRecDepth 100000 in
set_option maxHeartbeats 40000000 in
theorem meets_row (own oth : Bool) (way gap : Int) (w : World) (hw : 0 ≤ way ∧ way ≤ 255) (hg : 0 ≤ gap ∧ gap ≤ 255) :
    Calls Try.prog 12 #[.bool own, .bool oth, .int .u8 way, .int .u8 gap] w fun e w' => e = .returned (.bool true) ∧ Below w.heap.size w w' := by
  have hwa : IntKind.i64.wrap way = way := wrapM _ (by omega)
  have hga : IntKind.i64.wrap gap = gap := wrapM _ (by omega)
  go_enter Try.func12, Try.ntmps12
  go_wp2_with fail
  refine (awake14_any _).mono ?_
  rintro e w0 ⟨rfl, hB⟩
  go_wp2_with fail
  refine (usual_any _ _).mono ?_
  rintro e w1 ⟨rfl, hb⟩
  replace hB := bthen hB hb
  have hs1 := hB.size
  clear hb
  have hU := SU.new hB (fun _ => 0) (fun _ => 0)
  clear hB
  go_wp2_with fail
  obtain ⟨d, hd⟩ : ∃ d, 1 + way % 40 = d := ⟨_, rfl⟩
  obtain ⟨g, hgg⟩ : ∃ g, gap % 60 = g := ⟨_, rfl⟩
  have hd1 : 1 ≤ d ∧ d ≤ 40 := by omega
  have hg1 : 0 ≤ g ∧ g ≤ 59 := by omega
  rw [hd, hgg]
  clear hd hgg
  generalize w1.heap.size = KS at *
  generalize KS + 1 + 1 = KA at *
  generalize KS + 1 = KC at *
  go_loopw [14] (fun i wr => ∃ (n : Nat) (C J : Nat → Nat), i = .int .i64 n ∧ n ≤ 2 ∧ SU w wr KS KC KA C J n) (fun i _ => 2 - (intOf i).toNat)
  case atStart => exact ⟨0, _, _, rfl, by omega, hU⟩
  case round =>
    clear hU
    obtain ⟨n, C, J, rfl, hn, hU⟩ := hrel
    by_cases hn2 : n < 2
    · obtain ⟨hU, c1, c2, f1, f2⟩ := hU.cl hn2
      have hlo := hU.lo
      have hkl := hU.kc.lt
      have hal := hU.ka.lt
      have c1' : (wr.alloc (.cells #[.int .i64 0, .int .i64 0, .int .i64 0, .int .i64 0, .int .i64 0, .int .i64 0, .int .i64 0, .int .i64 0] 25)).cell? ⟨KC, n, none⟩ = some (.pointer none) := by rw [World.cell?_alloc_lt _ _ _ hkl]; exact c1
      have f1' : (wr.alloc (.cells #[.int .i64 0, .int .i64 0, .int .i64 0, .int .i64 0, .int .i64 0, .int .i64 0, .int .i64 0, .int .i64 0] 25)).frozen? ⟨KC, n, none⟩ = false := (hU.kc.alloc _).frozen n
      go_upto_region 13 with fail
      have hK2 : Blk ((wr.setCell ⟨KC, n, none⟩ (.pointer (some ⟨wr.heap.size, 0, none⟩))).alloc (.cells #[.int .i64 0, .int .i64 0, .int .i64 0, .int .i64 0, .int .i64 0, .int .i64 0, .int .i64 0, .int .i64 0] 25)) KS mSet 34 := (hU.ks.other (a := ⟨KC, n, none⟩) (by show KS ≠ KC; omega) _).alloc _
      have hC2 : Ck ((wr.setCell ⟨KC, n, none⟩ (.pointer (some ⟨wr.heap.size, 0, none⟩))).alloc (.cells #[.int .i64 0, .int .i64 0, .int .i64 0, .int .i64 0, .int .i64 0, .int .i64 0, .int .i64 0, .int .i64 0] 25)) wr.heap.size zl := by
        have := Ck.new (wr.setCell ⟨KC, n, none⟩ (.pointer (some ⟨wr.heap.size, 0, none⟩)))
        rwa [show (wr.setCell ⟨KC, n, none⟩ (.pointer (some ⟨wr.heap.size, 0, none⟩))).heap.size = wr.heap.size from by simp [World.setCell]] at this
      have hkc2 : ((wr.setCell ⟨KC, n, none⟩ (.pointer (some ⟨wr.heap.size, 0, none⟩))).alloc (.cells #[.int .i64 0, .int .i64 0, .int .i64 0, .int .i64 0, .int .i64 0, .int .i64 0, .int .i64 0, .int .i64 0] 25)).cell? ⟨KC, n, none⟩ = some (.pointer (some ⟨wr.heap.size, 0, none⟩)) := ((hU.kc.set n _).alloc _).cell n (by rcases (by omega : n = 0 ∨ n = 1) with rfl | rfl <;> rfl)
      have hka2 : ((wr.setCell ⟨KC, n, none⟩ (.pointer (some ⟨wr.heap.size, 0, none⟩))).alloc (.cells #[.int .i64 0, .int .i64 0, .int .i64 0, .int .i64 0, .int .i64 0, .int .i64 0, .int .i64 0, .int .i64 0] 25)).cell? ⟨KA, n, none⟩ = some (.pointer none) := ((hU.ka.other (a := ⟨KC, n, none⟩) (by show KA ≠ KC; omega) _).alloc _).cell n (by rcases (by omega : n = 0 ∨ n = 1) with rfl | rfl <;> rfl)
      have hkaf : ((wr.setCell ⟨KC, n, none⟩ (.pointer (some ⟨wr.heap.size, 0, none⟩))).alloc (.cells #[.int .i64 0, .int .i64 0, .int .i64 0, .int .i64 0, .int .i64 0, .int .i64 0, .int .i64 0, .int .i64 0] 25)).frozen? ⟨KA, n, none⟩ = false := ((hU.ka.other (a := ⟨KC, n, none⟩) (by show KA ≠ KC; omega) _).alloc _).frozen n
      have hz2 : ((wr.setCell ⟨KC, n, none⟩ (.pointer (some ⟨wr.heap.size, 0, none⟩))).alloc (.cells #[.int .i64 0, .int .i64 0, .int .i64 0, .int .i64 0, .int .i64 0, .int .i64 0, .int .i64 0, .int .i64 0] 25)).heap.size = wr.heap.size + 1 := by simp [World.setCell]
      have hst := fun (w3 : World) (j : Nat) (hj : wr.heap.size + 1 ≤ j) (hA : AC w3 j wr.heap.size uS mT aIdle) => hU.step hn2 hj hA (.cells #[.int .i64 0, .int .i64 0, .int .i64 0, .int .i64 0, .int .i64 0, .int .i64 0, .int .i64 0, .int .i64 0] 25)
      clear c1 c2 f1 f2 c1' f1'
      generalize ((wr.setCell ⟨KC, n, none⟩ (.pointer (some ⟨wr.heap.size, 0, none⟩))).alloc (.cells #[.int .i64 0, .int .i64 0, .int .i64 0, .int .i64 0, .int .i64 0, .int .i64 0, .int .i64 0, .int .i64 0] 25)) = w2 at *
      have k0 := hK2.cell 0 rfl
      have k1 := hK2.cell 1 rfl
      have k2 := hK2.cell 2 rfl
      have k3 := hK2.cell 3 rfl
      have k4 := hK2.cell 4 rfl
      have k5 := hK2.cell 5 rfl
      have k6 := hK2.cell 6 rfl
      have k7 := hK2.cell 7 rfl
      have k8 := hK2.cell 8 rfl
      have k9 := hK2.cell 9 rfl
      have k10 := hK2.cell 10 rfl
      have k11 := hK2.cell 11 rfl
      have k12 := hK2.cell 12 rfl
      go_region_with (go_at_call 31; refine (anew_any _ _ _ _ _ _ _ _ _ _ _ _ _ _ _ _ (hC2.fr (Fr.refl (fun _ => False) w2).drew (fun h => h))).mono ?_; rintro e w3 ⟨j, rfl, hj, hJ, hb⟩; have hj' : wr.heap.size + 1 ≤ j := (by rw [← hz2]; exact hj); have hb' : Below (wr.heap.size + 1) w2 w3 := (by rw [← hz2]; exact (below_drewN (Below.refl _ w2) 1).trans hb); have hS := hst w3 j hj' hJ hb'; have z3 : w3.cell? ⟨KA, n, none⟩ = some (.pointer none) := (by rw [← hka2]; exact hb'.cell (by show KA < _; omega)); have f3 : w3.frozen? ⟨KA, n, none⟩ = false := (by rw [← hkaf]; exact hb'.frozen (by show KA < _; omega)))
      all_goals clear hst hb hJ hC2 hkc2 hka2 hkaf k0 k1 k2 k3 k4 k5 k6 k7 k8 k9 k10 k11 k12 hK2
      all_goals go_wp2
      all_goals exact ⟨⟨n + 1, _, _, by go_num, by omega, hS⟩, by simp [intOf]; omega⟩
    have h2 : n = 2 := by omega
    subst h2
    have hS := hU.both
    clear hU
    generalize C 0 = c0 at hS
    generalize J 0 = j0 at hS
    generalize C 1 = c1 at hS
    generalize J 1 = j1 at hS
    have z0 := hS.ka.cell 0 rfl
    go_wp2_with fail
    refine (ahurryon_any j0 c0 _ _ _ _ _ hS.a0).mono ?_
    rintro e w2 ⟨rfl, hA, hF⟩
    replace hS := hS.one hA hF
    clear hA hF z0
    have z1 := hS.ka.cell 1 rfl
    go_wp2_with fail
    refine (ahurryon_any j1 c1 _ _ _ _ _ hS.a1).mono ?_
    rintro e w3 ⟨rfl, hA, hF⟩
    replace hS := hS.other hA hF
    clear hA hF z1
    have z0 := hS.ka.cell 0 rfl
    go_wp2_with fail
    refine (abegin_any j0 c0 _ _ _ _ hS.a0).mono ?_
    rintro e w4 ⟨rfl, hA, hF⟩
    replace hS := hS.one hA hF
    clear hA hF z0
    have hM := hS.done (fun k t => mS own oth d g k t)
    have hS0 : ∀ k, k < 2 → Sd own oth d g k (mB g k < (0 : Nat)) (0 : Nat) (pk (aBegin mT (aHurry mT own aIdle)) (aHurry mT oth aIdle) k) := by
      intro k hk
      rcases (by omega : k = 0 ∨ k = 1) with rfl | rfl
      · refine .inr ⟨by unfold mB; simp, .inl ⟨by unfold mN; simp; omega, 900, by simp, by omega, ?_⟩⟩
        cases own <;> simp [pk, ow, aBegin, aHurry, stopL, startL, tOk, sOk]
      · refine .inl ⟨by unfold mB; simp; omega, ?_⟩
        cases oth <;> simp [pk, ow, aHurry]
    clear hS
    go_wp2_with fail
    generalize hKL : w4.heap.size = KL at hM ⊢
    clear hKL
    generalize pk (aBegin mT (aHurry mT own aIdle)) (aHurry mT oth aIdle) = s0 at hM hS0
    generalize KL + 1 = base at hM
    generalize pk c0 c1 = C at hM
    generalize pk j0 j1 = J at hM
    have hMp := mM_pos own oth
    have hbd : ∀ k t, 0 ≤ cN own oth d g k t ∧ cN own oth d g k t ≤ 1 := by intro k t; unfold cN; split <;> omega
    have hE : ∀ k, k < 2 → 0 < mE own oth d g k ∧ mE own oth d g k < g + 4 * d + 60 := by
      intro k hk
      rcases (by omega : k = 0 ∨ k = 1) with rfl | rfl <;> unfold mE mP <;> simp <;> omega
    have hw1 : IntKind.i64.wrap (g + 50) = g + 50 := wrapM _ (by omega)
    have hw2 : IntKind.i64.wrap (4 * d) = 4 * d := wrapM _ (by omega)
    have hw3 : IntKind.i64.wrap (g + 50 + 4 * d) = g + 50 + 4 * d := wrapM _ (by omega)
    have hw4 : IntKind.i64.wrap (g + 50 + 4 * d + 10) = g + 50 + 4 * d + 10 := wrapM _ (by omega)
    have hz00 : cN own oth d g 0 0 + cN own oth d g 1 0 = 0 := by
      have h0 := hE 0 (by omega)
      have h1 := hE 1 (by omega)
      unfold cN
      rw [if_neg (by omega), if_neg (by omega)]
      rfl
    go_loopw [15, 17] (fun dn t wr => ∃ (n : Nat) (s : Nat → AS) (v : Nat → Value), t = .int .i64 n ∧ (n : Int) ≤ g + 4 * d + 60 ∧ dn = .int .i64 (cN own oth d g 0 n + cN own oth d g 1 n) ∧ (∀ k, k < 2 → Sd own oth d g k (mB g k < n) n (s k)) ∧ MW w wr KC KA KL C J base s (fun _ => n) (fun k t => mS own oth d g k t) v) (fun _ t _ => 400 - (intOf t).toNat)
    case atStart => exact ⟨0, _, _, rfl, by omega, by show _ = Value.int .i64 (cN own oth d g 0 0 + cN own oth d g 1 0); rw [hz00], hS0, hM⟩
    case round =>
      clear hS0 hM hz00
      obtain ⟨n, s, v, rfl, hn, rfl, hS, hM⟩ := hrel
      have hb0 := hbd 0 n
      have hb1 := hbd 1 n
      by_cases hlt : (n : Int) < g + 50 + 4 * d + 10
      case neg =>
        have e0 : cN own oth d g 0 n = 1 := by have := hE 0 (by omega); unfold cN; rw [if_pos (by omega)]
        have e1 : cN own oth d g 1 n = 1 := by have := hE 1 (by omega); unfold cN; rw [if_pos (by omega)]
        rw [e0, e1]
        go_wp2
        go_ret
        exact ⟨rfl, hM.bel⟩
      by_cases hc : cN own oth d g 0 n + cN own oth d g 1 n < 2
      case neg =>
        have e0 : cN own oth d g 0 n = 1 := by omega
        have e1 : cN own oth d g 1 n = 1 := by omega
        rw [e0, e1]
        go_wp2
        go_ret
        exact ⟨rfl, hM.bel⟩
      go_upto_if 79 with fail
      go_cut [79] (fun _ wx => ∃ s2, (∀ k, k < 2 → Sd own oth d g k (mB g k ≤ n) n (s2 k)) ∧ MW w wx KC KA KL C J base s2 (fun _ => n) (fun k t => mS own oth d g k t) v)
      case first =>
        by_cases hng : (n : Int) = g
        · have bb : ((n : Int) == g) = true := by simp [hng]
          replace hng := Lib.hid hng
          have z1 := hM.alg 1 (by omega)
          go_wp2_with fail
          refine (abegin_any (J 1) (C 1) _ _ _ _ (hM.ac 1 (by omega))).mono ?_
          rintro e w5 ⟨rfl, hA, hF⟩
          have hM5 := hM.side 1 (by omega) hA hF
          clear hM hA hF z1
          go_wp2
          go_meet
          refine ⟨_, fun k hk => ?_, hM5⟩
          rcases (by omega : k = 0 ∨ k = 1) with rfl | rfl
          · exact sd_go (by unfold mB; rw [if_pos rfl]; omega) (hS 0 (by omega))
          · have := hS 1 (by omega)
            rw [hng.out] at this ⊢
            exact sd_begin hg1.1 hd1.1 this
        · have bb : ((n : Int) == g) = false := by simp [hng]
          replace hng := Lib.hid hng
          go_wp2
          go_meet
          replace hng := hng.out
          refine ⟨s, fun k hk => sd_go ?_ (hS k hk), hM⟩
          rcases (by omega : k = 0 ∨ k = 1) with rfl | rfl
          · unfold mB; rw [if_pos rfl]; omega
          · unfold mB; rw [if_neg (by decide)]; exact hng
      case rest =>
        clear hS hM
        obtain ⟨s2, hS, hM⟩ := hcut
        go_wp2_with fail
        go_loopw [18] (fun i wx => ∃ (u : Nat) (v2 : Nat → Value), u ≤ 2 ∧ i = .int .i64 u ∧ MW w wx KC KA KL C J base s2 (fun k => if k < u then n + 1 else n) (fun k t => mS own oth d g k t) v2) (fun i _ => 2 - (intOf i).toNat)
        case atStart => exact ⟨0, v, by omega, rfl, hM.len (fun k hk => by simp)⟩
        case round =>
          clear hM
          obtain ⟨u, v2, hu, rfl, hM⟩ := hrel
          by_cases hu2 : u < 2
          ·
            as_aux_lemma =>
            have hsn := sd_sends hd1.1 hg1.1 (hS u hu2)
            obtain ⟨q, hq⟩ : ∃ q, mS own oth d g u n = q := ⟨_, rfl⟩
            rw [hq] at hsn
            have hmu : (fun k => if k < u then n + 1 else n) u = n := by simp
            have hnx : ∀ k, k < 2 → (if k < u + 1 then n + 1 else n) = (if k = u then n + 1 else (fun k => if k < u then n + 1 else n) k) := by
              intro k hk
              by_cases e : k = u
              · subst e; simp
              · rw [if_neg e]
                by_cases e2 : k < u
                · rw [if_pos (by omega)]; simp [e2]
                · rw [if_neg (by omega)]; simp [e2]
            generalize (fun k => if k < u then n + 1 else n) = m at *
            have z1 := hM.alg u hu2
            have z2 := hM.lin u hu2
            have z3 := hM.lfz u
            have hkl := hM.kl.lt
            have hD := hM.drew.alloc (.cells #[.int .u8 q] 5)
            have hO := hD.rows u hu2
            rw [hmu] at hO
            have hne : some KL ≠ (v2 u).ownBlock := fun e => by have := (hM.own u hu2 KL e.symm).1; have := hM.ad.hi; omega
            have hcall := fun w' (hw : w' = wr.drew) => sends_same (J u) (C u) _ _ _ q w' (hw ▸ hM.drew.ac u hu2) hsn
            have hbig := hD.big
            have hnews : ∀ j x, ([.int .u8 q] : List Value)[j]? = some x → (wr.drew.alloc (.cells #[.int .u8 q] 5)).cell? ((⟨wr.heap.size, 0, none⟩ : Addr).add j) = some x := World.news_of_block (B := wr.heap.size) (cs := #[.int .u8 q]) (t := 5) (fr := (0, 0)) (by show (wr.heap.push _)[wr.heap.size]? = _; simp)
            have hline := fun (g cap : Nat) (w5 : World) => hD.line u hu2 (g := g) (cap := cap) (w' := w5) (x := .int .u8 q) (by rw [hmu]; exact congrArg _ hq.symm)
            rw [hmu] at hline
            have z8 : (wr.drew.alloc (.cells #[.int .u8 q] 5)).cell? ⟨KL, u, none⟩ = some (v2 u) := hD.lin u hu2
            have z9 := hD.lfz u
            have hkl2 := hD.kl.lt
            have hz2 : (wr.drew.alloc (.cells #[.int .u8 q] 5)).heap.size = wr.heap.size + 1 := by simp
            obtain ⟨i0, hi, hi0, hi1, hi2⟩ := info_parts infoM5
            have hn3 : n + 1 ≤ 400 := by omega
            have HD := Lib.hid hD
            have HM := Lib.hid hM
            clear hM hD hsn hS
            go_upto_region 27 with fail
            go_region_law (first | (go_simp; go_at_call 40; refine (hcall _ rfl).mono ?_; rintro e w' ⟨rfl, rfl⟩) | (refine step_append_lies (wr.drew.alloc (.cells #[.int .u8 q] 5)) (by rfl) (.tmp 90) (.tmp 95) 48 (by rfl) base 5 i0 (.int .u8 0) 1 1 Try.underlying48 hi hi0 hi1 hi2 rfl (by decide) (v2 u) n _ (by rfl) hO ⟨wr.heap.size, 0, none⟩ 1 1 [.int .u8 q] (by rfl) rfl hnews (by simp [Value.oneCell']) (by decide) (by unfold maxLen; omega) (by omega) hbig _ rfl ?_; intro g cap w5 hO5 hG hat hlt; have z6 : w5.cell? ⟨KL, u, none⟩ = some (v2 u) := (by rw [hG.cell_far _ hkl2 hne]; exact z8); have z7 : w5.frozen? ⟨KL, u, none⟩ = false := (by rw [hG.frozen_far _ hkl2 hne]; exact z9)))
            all_goals clear hcall hnews z8 z9 hO
            all_goals go_wp2
            all_goals exact ⟨⟨u + 1, _, by omega, by go_num, (hline g cap w5 hO5 hG hat).len hnx⟩, by simp [intOf]; omega⟩
          have h2 : u = 2 := by omega
          subst h2
          replace hM := hM.len (m2 := fun _ => n + 1) (fun k hk => by rw [if_pos hk])
          as_aux_lemma =>
          go_wp2_with fail
          go_loopw [15, 19] (fun dn i wx => ∃ (u : Nat) (s3 : Nat → AS), u ≤ 2 ∧ i = .int .i64 u ∧ dn = .int .i64 (cS own oth d g n u) ∧ (∀ k, k < 2 → (k < u → Sd own oth d g k (mB g k < (n : Int) + 1) ((n : Int) + 1) (s3 k)) ∧ (u ≤ k → Sd own oth d g k (mB g k ≤ n) n (s3 k))) ∧ MW w wx KC KA KL C J base s3 (fun _ => n + 1) (fun k t => mS own oth d g k t) v2) (fun _ i _ => 2 - (intOf i).toNat)
          case atStart => exact ⟨0, s2, by omega, rfl, rfl, fun k hk => ⟨fun h => absurd h (by omega), fun _ => hS k hk⟩, hM⟩
          case round =>
            clear hM hS
            obtain ⟨u, s3, hu, rfl, rfl, hS, hM⟩ := hrel
            by_cases hu2 : u < 2
            case neg =>
              have h2 : u = 2 := by omega
              subst h2
              have hcs : cS own oth d g n 2 = cN own oth d g 0 ((n + 1 : Nat) : Int) + cN own oth d g 1 ((n + 1 : Nat) : Int) := rfl
              rw [hcs]
              go_wp2
              exact ⟨⟨n + 1, s3, v2, by go_num, by omega, rfl, fun k hk => (hS k hk).1 hk, hM⟩, by simp [intOf]; omega⟩
            have hq2 := cS_bd own oth d g n u
            have hsa := @cS_same own oth d g u n hu2
            have hsm := @cS_more own oth d g u n hu2
            generalize cS own oth d g n u = q at *
            have hst := sd_step hu2 hd1 hg1 (by omega) (by omega) ((hS u hu2).2 (Nat.le_refl u))
            have hz := hM.clk u hu2
            go_wp2_with fail
            refine (tick_at (C u) _ (s3 u).l (tickO (s3 u).l 8) (hM.ac u hu2).ck rfl).mono ?_
            rintro e w5 ⟨A, cp, rfl, hR, hCk, hF5⟩
            have hbg := hM.big
            have hM5 := hM.tick u hu2 hCk hF5
            clear hM hCk hF5 hz
            have hA5 := hM5.ac u hu2
            simp only [if_true] at hA5
            have ha5 := hM5.alg u hu2
            have hnext := fun s5 => sides_next (A := fun k s => Sd own oth d g k (mB g k < (n : Int) + 1) ((n : Int) + 1) s) (B := fun k s => Sd own oth d g k (mB g k ≤ n) n s) (s5 := s5) hS
            rcases hst with ⟨ho, hne, hb, h1, h2⟩ | ⟨tm, ho, hte, hy, hdn, hs0, hSd⟩
            · rw [ho]
              replace hsa := hsa hne
              clear hsm hR hne
              have HO := Lib.hid ho
              clear ho
              go_wp2_with fail
              go_loopw [15, 21] (fun dn j wx => dn = .int .i64 q ∧ j = .int .i64 0 ∧ wx = w5) (fun _ _ _ => 0)
              case atStart => exact ⟨rfl, rfl, rfl⟩
              case round =>
                obtain ⟨rfl, rfl, rfl⟩ := hrel
                have h14 := hA5.st
                by_cases hnd : d ≤ n
                case neg =>
                  as_aux_lemma =>
                  have hSd := h1 (.inr (.inl (by omega)))
                  clear h1 h2
                  go_wp2
                  exact ⟨⟨_, _, _, ⟨u + 1, by omega, by go_num, by rw [hsa], _, hnext _ hSd, hM5⟩, rfl, rfl, rfl⟩, by simp [intOf]; omega⟩
                obtain ⟨r, hr⟩ : ∃ r : Nat, (n : Int) - d = r := ⟨((n : Int) - d).toNat, by omega⟩
                rw [hr] at h1 h2
                by_cases h0 : (s3 u).st = 0
                ·
                  as_aux_lemma =>
                  have hSd := h1 (.inl h0)
                  replace h14 : wr.cell? ⟨J u, 14, none⟩ = some (.int .u8 0) := by rw [h14]; simp [h0]
                  clear h1 h2 h0
                  go_wp2
                  refine ⟨?_, by simp [intOf]; omega⟩
                  repeat apply Exists.intro
                  exact And.intro ⟨u + 1, _, by omega, by go_num, by rw [hsa], hnext _ hSd, hM5⟩ (by first | rfl | exact ⟨rfl, rfl, rfl⟩)
                have b0 : ((s3 u).st == 0) = false := by simp [h0]
                have b1 : ((s3 u).st != 0) = true := by simp [h0]
                obtain ⟨gg, cap, hv, hgb, hcl⟩ := own_at (hM5.rows (1 - u) (by omega)) r _ (rowsOf_at _ (n + 1) r (by omega))
                have hl := hM5.lin (1 - u) (by omega)
                rw [hv] at hl
                have hwu : IntKind.i64.wrap (1 - (u : Int)) = ((1 - u : Nat) : Int) := by rw [wrapM _ (by omega)]; omega
                have hwr : IntKind.i64.wrap ((n : Int) - d) = (r : Int) := by rw [hr]; exact wrapM _ (by omega)
                have hyb := mS_bd own oth d g (1 - u) r
                generalize mS own oth d g (1 - u) r = y at h1 h2 hcl hyb
                have hu1 : 1 - u < 2 := by omega
                have hrn : r < n + 1 := by omega
                by_cases hy3 : y = 3
                ·
                  as_aux_lemma =>
                  have hSd := h1 (.inr (.inr hy3))
                  subst hy3
                  clear h1 h2 h0 hr
                  go_wp2
                  exact ⟨⟨_, _, _, ⟨u + 1, by omega, by go_num, by rw [hsa], _, hnext _ hSd, hM5⟩, rfl, rfl, rfl⟩, by simp [intOf]; omega⟩
                ·
                  as_aux_lemma =>
                  have b3 : (y == 3) = false := by simp [hy3]
                  have b4 : (y != 3) = true := by simp [hy3]
                  obtain ⟨hw0, hSd⟩ := h2 h0 hnd hy3
                  clear h1 h2 h0 hr hy3
                  go_wp2_with fail
                  refine (aheard_any (J u) (C u) _ _ _ y _ hA5 hb hyb).mono ?_
                  rintro e w7 ⟨rfl, hA7, hF7⟩
                  rw [hw0]
                  have hM7 := (hM5.side u hu2 hA7 hF7).st (s2 := fun k => if k = u then aHeard mT y { s3 u with l := tickL (s3 u).l } else s3 k) (fun k hk => by by_cases e : k = u <;> simp [e])
                  clear hM5 hA7 hF7 hA5 h14 hl hcl
                  go_wp2
                  refine ⟨?_, by simp [intOf]; omega⟩
                  repeat apply Exists.intro
                  exact And.intro ⟨u + 1, _, by omega, by go_num, by rw [hsa], hnext _ hSd, hM7⟩ (by first | rfl | exact ⟨rfl, rfl, rfl⟩)
            · rw [ho] at hR ⊢
              replace hsm := hsm hte
              clear hsa hte
              obtain ⟨gg, rfl, hg0, hgl, hg⟩ := hR (by simp)
              have hc5 : w5.cell? ⟨gg, 0, none⟩ = some (.int .i64 tm) := by simpa using hg 0 (by simp)
              have hout : ∀ w', w' = w5.drew → Calls Try.prog 41 #[.pointer (some ⟨J u, 0, none⟩), .int .i64 tm] w' fun e w'' => e = .returned (.tuple #[.bool true, .int .u8 0]) ∧ AC w'' (J u) (C u) uS mT (aOut tm { s3 u with l := tickL (s3 u).l }) ∧ Fr (two (J u) (C u)) w5 w'' := by
                rintro w' rfl
                refine (aout_any (J u) (C u) _ _ _ tm _ hA5.drew).mono ?_
                rintro e w'' ⟨g1, g2, g3⟩
                exact ⟨by rw [g1, hy, hdn], g2, (Fr.refl _ _).drew.then_ g3⟩
              clear hR hg hg0 hgl ho
              go_wp2_with fail
              go_loopw [15, 21] (fun dn j wx => (dn = .int .i64 q ∧ j = .int .i64 0 ∧ wx = w5) ∨ (dn = .int .i64 (q + 1) ∧ j = .int .i64 1 ∧ MW w wx KC KA KL C J base (fun k => if k = u then aOut tm { s3 u with l := tickL (s3 u).l } else s3 k) (fun _ => n + 1) (fun k t => mS own oth d g k t) v2)) (fun _ j _ => 1 - (intOf j).toNat)
              case atStart => exact .inl ⟨rfl, rfl, rfl⟩
              case round =>
                rcases hrel with ⟨rfl, rfl, rfl⟩ | ⟨rfl, rfl, hM6⟩
                ·
                  as_aux_lemma =>
                  have hfin := fun (w6 : World) (hA6 : AC w6 (J u) (C u) uS mT (aOut tm { s3 u with l := tickL (s3 u).l })) (hF6 : Fr (two (J u) (C u)) wr w6) => (hM5.side (w' := w6) u hu2 hA6 hF6).st (s2 := fun k => if k = u then aOut tm { s3 u with l := tickL (s3 u).l } else s3 k) (fun k hk => by by_cases e : k = u <;> simp [e])
                  clear hM5
                  have hwq : IntKind.i64.wrap (q + 1) = q + 1 := wrapM _ (by omega)
                  go_upto_region 35 with fail
                  go_region_with (go_at_call 41; refine (hout _ rfl).mono ?_; rintro e w6 ⟨rfl, hA6, hF6⟩)
                  all_goals clear hout
                  all_goals go_wp2
                  all_goals exact ⟨.inr ⟨rfl, rfl, hfin _ hA6 hF6⟩, by simp [intOf]⟩
                ·
                  as_aux_lemma =>
                  have ha6 := hM6.alg u hu2
                  have h14 : wr.cell? ⟨J u, 14, none⟩ = some (.int .u8 0) := by have := (hM6.ac u hu2).st; simp only [if_true] at this; rw [hs0] at this; exact this
                  clear hM5 hout hA5
                  by_cases hnd : d ≤ n
                  all_goals go_wp2
                  all_goals exact ⟨⟨_, _, _, ⟨u + 1, by omega, by go_num, by rw [hsm], _, hnext _ hSd, hM6⟩, rfl, rfl, rfl⟩, by simp [intOf]; omega⟩
end Go.Proofs.Ytpalpoecakijnaa
