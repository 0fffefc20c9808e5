/-
  Numbers going round, and a hold's block apart from its rows: what a hold knows.
-/
import Derived.Test.YtadheikcgdhcdaaHoldW
import Derived.Lib.SliceRun
namespace Go.Proofs.Ytadheikcgdhcdaa
open Go.RowKit
set_option linter.unusedVariables false
set_option linter.unusedSimpArgs false

theorem gap_any (a b : Int) (w : World) : Calls Try.prog 73 #[.int .u8 a, .int .u8 b] w fun e w' => e = .returned (.int .i64 ((b - a) % 128)) ∧ w = w' := by
  go_enter Try.func73, Try.ntmps73
  go_wp2
  go_ret
  exact ⟨rfl, rfl⟩
theorem prev_any (a : Int) (w : World) : Calls Try.prog 74 #[.int .u8 a] w fun e w' => e = .returned (.int .u8 ((a + 127) % 128)) ∧ w = w' := by
  go_enter Try.func74, Try.ntmps74
  go_wp2
  go_ret
  exact ⟨ret_int (by omega), rfl⟩
theorem within_any (n a b : Int) (w : World) : Calls Try.prog 92 #[.int .u8 n, .int .u8 a, .int .u8 b] w fun e w' => e = .returned (.bool (decide ((n - a) % 128 ≤ (b - a) % 128))) ∧ w = w' := by
  go_enter Try.func92, Try.ntmps92
  go_wp2_with (go_at_call 73; refine (gap_any _ _ _).mono ?_; rintro e w' ⟨rfl, rfl⟩)
  go_ret
  exact ⟨rfl, rfl⟩

/-- A hold, without bounds on where it lies. -/
structure HX (w : World) (h : Nat) (m o f : Int) (sv nv : Value) (ss ns : List (List Int)) : Prop where
  blk : Blk w h [.int .i64 m, .int .i64 o, sv, .int .u8 f, nv] 105
  sl : ∃ svs, SS w 0 33 sv svs ∧ Msgs w 0 svs ss
  nl : ∃ nvs, SS w 0 33 nv nvs ∧ Msgs w 0 nvs ns
  sep : ∀ g, sv.ownBlock = some g → nv.ownBlock = some g → False
  fin : 0 ≤ f ∧ f ≤ 127
  cnt : ss.length + ns.length ≤ 1000
  win : ss.length ≤ 127
  len : ∀ x, x ∈ ss ∨ x ∈ ns → 3 ≤ x.length ∧ x.length ≤ 273

/-- The blocks of a hold's rows. -/
def Ro (sv nv : Value) (q : Nat) : Prop := sv.ownBlock = some q ∨ nv.ownBlock = some q
/-- What an act on a hold leaves as it was; its rows' blocks are its own, or new. -/
structure HF (w w' : World) (h : Nat) (sv nv sv' nv' : Value) : Prop where
  fr : Fr (fun q => q = h ∨ Ro sv nv q) w w'
  own : ∀ q, Ro sv' nv' q → Ro sv nv q ∨ w.heap.size ≤ q

theorem SS.own33 {w : World} {base g : Nat} {e : TypeId} {v : Value} {vs : List Value} (h : SS w base e v vs) (hv : v.ownBlock = some g) : ∃ cs, Blk w g cs e := by
  rcases h with ⟨h, _⟩ | ⟨g', o, cap, cs, rfl, hb, hB, h1, h2, h3, h4⟩
  · rw [h] at hv; cases hv
  · have : g' = g := by simpa [Value.ownBlock] using hv
    subst this
    exact ⟨cs, hB⟩
theorem Blk.apart {w : World} {b c : Nat} {xs ys : List Value} {S T : TypeId} (h : Blk w b xs S) (k : Blk w c ys T) (hn : S ≠ T) : b ≠ c := by
  rintro rfl
  have := Eq.trans (Eq.symm (show w.heap[b]? = _ from h)) (show w.heap[b]? = _ from k)
  simp only [Option.some.injEq, Obj.cells.injEq] at this
  exact hn this.2.1
theorem HX.row33 {w : World} {h : Nat} {m o f : Int} {sv nv : Value} {ss ns : List (List Int)} (k : HX w h m o f sv nv ss ns) {q : Nat} (hq : Ro sv nv q) : ∃ cs, Blk w q cs 33 := by
  obtain ⟨svs, a, _⟩ := k.sl
  obtain ⟨nvs, b, _⟩ := k.nl
  rcases hq with hq | hq
  · exact a.own33 hq
  · exact b.own33 hq
/-- Blocks of other types are as they were. -/
theorem HX.keep {w w' : World} {h : Nat} {m o f : Int} {sv nv sv' nv' : Value} {ss ns : List (List Int)} (k : HX w h m o f sv nv ss ns) (hF : HF w w' h sv nv sv' nv') {b : Nat} {cs : List Value} {T : TypeId} (hB : Blk w b cs T) (h1 : T ≠ 105) (h2 : T ≠ 33) : Blk w' b cs T := by
  refine hB.fr hF.fr ?_
  rintro (e | e)
  · exact hB.apart k.blk h1 e
  · obtain ⟨ds, hd⟩ := k.row33 e
    exact hB.apart hd h2 rfl
theorem HX.drewN {w : World} {h : Nat} {m o f : Int} {sv nv : Value} {ss ns : List (List Int)} (k : HX w h m o f sv nv ss ns) (n : Nat) : HX (w.drewN n) h m o f sv nv ss ns := ⟨k.blk.drewN n, k.sl, k.nl, k.sep, k.fin, k.cnt, k.win, k.len⟩
/-- A change elsewhere. -/
theorem HX.fr {S : Nat → Prop} {w w' : World} {h : Nat} {m o f : Int} {sv nv : Value} {ss ns : List (List Int)} (k : HX w h m o f sv nv ss ns) (hF : Fr S w w') (h1 : ¬ S h) (h2 : ∀ q, Ro sv nv q → ¬ S q) (h3 : ∀ g cs, Blk w g cs 5 → ¬ S g) : HX w' h m o f sv nv ss ns := by
  obtain ⟨svs, a1, a2⟩ := k.sl
  obtain ⟨nvs, b1, b2⟩ := k.nl
  exact ⟨k.blk.fr hF h1, ⟨svs, a1.fr hF (fun g hg => h2 g (.inl hg)), a2.fr hF (fun g cs hB _ => h3 g cs hB)⟩, ⟨nvs, b1.fr hF (fun g hg => h2 g (.inr hg)), b2.fr hF (fun g cs hB _ => h3 g cs hB)⟩, k.sep, k.fin, k.cnt, k.win, k.len⟩
theorem HX.below {w w' : World} {h : Nat} {m o f : Int} {sv nv : Value} {ss ns : List (List Int)} (k : HX w h m o f sv nv ss ns) (hb : Below w.heap.size w w') : HX w' h m o f sv nv ss ns :=
  k.fr (S := fun _ => False) (.of_below hb) (fun h => h) (fun _ _ h => h) (fun _ _ _ h => h)
/-- A change of blocks of one other type. -/
theorem HX.set {w : World} {h b : Nat} {m o f : Int} {sv nv : Value} {ss ns : List (List Int)} {cs : List Value} {T : TypeId} (k : HX w h m o f sv nv ss ns) (hB : Blk w b cs T) (h1 : T ≠ 105) (h2 : T ≠ 33) (h3 : T ≠ 5) (i : Nat) (u : Value) : HX (w.setCell ⟨b, i, none⟩ u) h m o f sv nv ss ns := by
  refine k.fr (Fr.set1 w ⟨b, i, none⟩ u) (fun e => hB.apart k.blk h1 e.symm) (fun q hq e => ?_) (fun g cs hG e => hB.apart hG h3 e.symm)
  obtain ⟨ds, hd⟩ := k.row33 hq
  exact hB.apart hd h2 e.symm
theorem HF.refl (w : World) (h : Nat) (sv nv : Value) : HF w w h sv nv sv nv := ⟨Fr.refl _ _, fun _ h => .inl h⟩
theorem HF.trans {w w1 w2 : World} {h : Nat} {sv nv sv1 nv1 sv2 nv2 : Value} (a : HF w w1 h sv nv sv1 nv1) (b : HF w1 w2 h sv1 nv1 sv2 nv2) : HF w w2 h sv nv sv2 nv2 := by
  refine ⟨a.fr.trans b.fr ?_, fun q hq => ?_⟩
  · rintro i hi (e | e)
    · exact .inl e
    · rcases a.own i e with e | e
      · exact .inr e
      · omega
  · rcases b.own q hq with e | e
    · exact a.own q e
    · exact .inr (Nat.le_trans a.fr.size e)
theorem HF.below {w w1 w2 : World} {h : Nat} {sv nv sv1 nv1 : Value} (a : HF w w1 h sv nv sv1 nv1) (b : Below w1.heap.size w1 w2) : HF w w2 h sv nv sv1 nv1 := ⟨a.fr.then_ (.of_below b), a.own⟩
theorem HF.of_below {w w1 : World} {h : Nat} (sv nv : Value) (b : Below w.heap.size w w1) : HF w w1 h sv nv sv nv := ⟨.of_below b, fun _ h => .inl h⟩
theorem HF.drewN {w w1 : World} {h : Nat} {sv nv sv1 nv1 : Value} (a : HF w w1 h sv nv sv1 nv1) (n : Nat) : HF w (w1.drewN n) h sv nv sv1 nv1 := ⟨a.fr.drewN n, a.own⟩

theorem HX.last {w : World} {h : Nat} {m o f : Int} {sv nv : Value} {ss ns : List (List Int)} (k : HX w h m o f sv nv ss ns) :
    Calls Try.prog 71 #[.pointer (some ⟨h, 0, none⟩)] w fun e w' => e = .returned (.int .u8 ((f + ss.length - 1) % 128)) ∧ ∃ q, w' = w.drewN q := by
  obtain ⟨svs, a1, a2⟩ := k.sl
  obtain ⟨a, cap, rfl⟩ := a1.shape
  have h1 := a2.1
  have := k.fin
  have := k.cnt
  rw [h1]
  exact last_gen h m o f a svs.length cap nv w k.blk ⟨by omega, by omega⟩ (by omega)

/-- Does a hold know a number? -/
def knowsB (f : Int) (len : Nat) (n : Int) : Bool := decide (n < 128) && decide ((n - f + 1) % 128 ≤ len)
theorem HX.knows {w : World} {h : Nat} {m o f : Int} {sv nv : Value} {ss ns : List (List Int)} (k : HX w h m o f sv nv ss ns) (n : Int) (hn : 0 ≤ n ∧ n ≤ 255) :
    Calls Try.prog 72 #[.pointer (some ⟨h, 0, none⟩), .int .u8 n] w fun e w' => e = .returned (.bool (knowsB f ss.length n)) ∧ ∃ q, w' = w.drewN q := by
  have hl := fun q => (k.drewN q).last
  have c3 := k.blk.cell 3 rfl
  have h1 := k.fin
  have h2 := k.win
  unfold knowsB
  by_cases hlt : n < 128
  · have hd : decide (n < 128) = true := by simpa using hlt
    rw [hd, Bool.true_and]
    obtain ⟨L, hL⟩ : ∃ L, (f + (ss.length : Int) - 1) % 128 = L := ⟨_, rfl⟩
    rw [hL] at hl
    have HL := Lib.hid hL
    have H1 := Lib.hid h1
    have H2 := Lib.hid h2
    clear k hL h1 h2
    go_enter Try.func72, Try.ntmps72
    go_wp2_with (first | (go_at_call 71; refine (hl 0).mono ?_; rintro e w' ⟨rfl, q, rfl⟩) | (go_at_call 74; refine (prev_any _ _).mono ?_; rintro e w' ⟨rfl, rfl⟩) | (go_at_call 92; refine (within_any _ _ _ _).mono ?_; rintro e w' ⟨rfl, rfl⟩))
    go_ret
    exact ⟨ret_bool (by have := HL.out; have := H1.out; have := H2.out; apply decide_eq_decide.2; omega), _, rfl⟩
  · have hd : decide (n < 128) = false := by simpa using hlt
    rw [hd, Bool.false_and]
    clear k hn h1 h2
    go_enter Try.func72, Try.ntmps72
    go_wp2
    go_ret
    exact ⟨rfl, 0, rfl⟩
end Go.Proofs.Ytadheikcgdhcdaa
