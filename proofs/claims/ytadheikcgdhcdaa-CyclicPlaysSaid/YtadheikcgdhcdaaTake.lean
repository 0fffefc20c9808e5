/-
  The basic way: what Take does where a message is taken, where one is missing, where it waits for one; Fill.
-/
import Derived.Test.YtadheikcgdhcdaaBas3
namespace Go.Proofs.Ytadheikcgdhcdaa
open Go.RowKit
set_option linter.unusedVariables false
set_option linter.unusedSimpArgs false

/-- A basic way in block b: its hold, its indicators, the last number, and what was odd. -/
def BS (w : World) (b h : Nat) (fib bib : Bool) (last : Int) (asked : Bool) (ag : Int) (q0 q1 i0 i1 : Bool) : Prop := Blk w b [.pointer (some ⟨h, 0, none⟩), .bool fib, .bool bib, .int .u8 last, .bool asked, .int .i64 ag, .bool q0, .bool q1, .bool i0, .bool i1] 116
theorem bs_of {w : World} {b h : Nat} (hB : BB w b h) : BS w b h true true 127 false (-1) false false false false := hB

theorem see8 (b h : Nat) (fib bib : Bool) (last : Int) (asked : Bool) (ag : Int) (q0 q1 i0 i1 odd : Bool) (w : World) (hB : BS w b h fib bib last asked ag q0 q1 i0 i1) :
    Calls Try.prog 26 #[.pointer (some ⟨b, 8, none⟩), .bool odd] w fun e w' => e = .returned (.bool (odd && (i0 || i1))) ∧ BS w' b h fib bib last asked ag q0 q1 i1 odd ∧ Fr (· = b) w w' := by
  have c0 := Blk.cell hB 8 rfl
  have c1 := Blk.cell hB 9 rfl
  have f0 := Blk.frozen hB 8
  have f1 := Blk.frozen hB 9
  have hb1 : BS ((w.drew.setCell ⟨b, 8, none⟩ (.bool i1)).setCell ⟨b, 9, none⟩ (.bool odd)) b h fib bib last asked ag q0 q1 i1 odd := Blk.set (Blk.set (Blk.drew hB) 8 (.bool i1)) 9 (.bool odd)
  have hb2 : BS ((w.drew.setCell ⟨b, 9, none⟩ (.bool odd)).setCell ⟨b, 8, none⟩ (.bool i1)) b h fib bib last asked ag q0 q1 i1 odd := Blk.set (Blk.set (Blk.drew hB) 9 (.bool odd)) 8 (.bool i1)
  have hf1 : Fr (· = b) w ((w.drew.setCell ⟨b, 8, none⟩ (.bool i1)).setCell ⟨b, 9, none⟩ (.bool odd)) := Fr.setCell (S := (· = b)) (p := ⟨b, 9, none⟩) (Fr.setCell (S := (· = b)) (p := ⟨b, 8, none⟩) (Fr.refl _ w).drew (.inl rfl) _) (.inl rfl) _
  have hf2 : Fr (· = b) w ((w.drew.setCell ⟨b, 9, none⟩ (.bool odd)).setCell ⟨b, 8, none⟩ (.bool i1)) := Fr.setCell (S := (· = b)) (p := ⟨b, 8, none⟩) (Fr.setCell (S := (· = b)) (p := ⟨b, 9, none⟩) (Fr.refl _ w).drew (.inl rfl) _) (.inl rfl) _
  have B1 := Lib.hid hb1
  have B2 := Lib.hid hb2
  have F1 := Lib.hid hf1
  have F2 := Lib.hid hf2
  clear hb1 hb2 hf1 hf2 hB
  cases odd <;> cases i0 <;> cases i1
  all_goals
    go_enter Try.func26, Try.ntmps26
    go_upto_region 2 with fail
    go_region
    all_goals go_wp2
    all_goals go_ret
    all_goals first | exact ⟨rfl, B1.out, F1.out⟩ | exact ⟨rfl, B2.out, F2.out⟩
theorem next_is (a : Int) (w : World) : Calls Try.prog 76 #[.int .u8 a] w fun e w' => e = .returned (.int .u8 ((a + 1) % 128)) ∧ w = w' := by
  go_enter Try.func76, Try.ntmps76
  go_wp2
  go_ret
  exact ⟨ret_int (by omega), rfl⟩

/-- A message that is the next one: it is taken. -/
theorem take_yes (b h g c : Nat) (fib bib : Bool) (last fsn bsn : Int) (bb asked : Bool) (ag : Int) (q0 q1 i0 i1 : Bool) (xs : List Value) (w : World) (hB : BS w b h fib bib last asked ag q0 q1 i0 i1) (hn : (last + 1) % 128 = fsn)
    (hx : ∀ j u, xs[j]? = some u → w.cell? ⟨g, j, none⟩ = some u) (hl : xs.length = 3) (h1 : ∀ u ∈ xs, u.oneCell' = true) (hg : g ≠ b) :
    Calls Try.prog 38 #[.pointer (some ⟨b, 0, none⟩), .agg #[.int .u8 bsn, .int .u8 fsn, .bool bb, .bool bib, .int .u8 2, .int .u8 0, .bool false, .slice (some ⟨g, 0, none⟩) 3 c]] w fun e w' =>
      ∃ g8 c8, e = .returned (.tuple #[.slice (some ⟨g8, 0, none⟩) 3 c8, .bool true, .int .i64 0]) ∧ BS w' b h fib bib fsn false ag q0 q1 i1 false ∧ Fr (· = b) w w' ∧ (∀ j u, xs[j]? = some u → w'.cell? ⟨g8, j, none⟩ = some u) ∧ w.heap.size ≤ g8 := by
  have hlb := Blk.lt hB
  have hU := Blk.new w [.int .u8 bsn, .int .u8 fsn, .bool bb, .bool bib, .int .u8 2, .int .u8 0, .bool false, .slice (some ⟨g, 0, none⟩) 3 c] 69
  have hB1 : BS (w.alloc (.cells #[.int .u8 bsn, .int .u8 fsn, .bool bb, .bool bib, .int .u8 2, .int .u8 0, .bool false, .slice (some ⟨g, 0, none⟩) 3 c] 69)) b h fib bib last asked ag q0 q1 i0 i1 := Blk.alloc hB _
  have hF1 : Fr (· = b) w (w.alloc (.cells #[.int .u8 bsn, .int .u8 fsn, .bool bb, .bool bib, .int .u8 2, .int .u8 0, .bool false, .slice (some ⟨g, 0, none⟩) 3 c] 69)) := (Fr.refl _ w).alloc _
  have HX := Lib.hid hx
  have HL := Lib.hid hl
  have H1 := Lib.hid h1
  have u1 := Blk.cell hU 1 rfl
  have u3 := Blk.cell hU 3 rfl
  have k2 := Blk.cell hB1 2 rfl
  have hU2 := Blk.drew hU
  have hB2 := Blk.drew hB1
  have hF2 := hF1.drew
  have hz2 : (w.alloc (.cells #[.int .u8 bsn, .int .u8 fsn, .bool bb, .bool bib, .int .u8 2, .int .u8 0, .bool false, .slice (some ⟨g, 0, none⟩) 3 c] 69)).drew.heap.size = w.heap.size + 1 := by simp
  have hfin : ∀ w1 : World, BS w1 b h fib bib last asked ag q0 q1 i1 false → Fr (· = b) w w1 → Blk w1 w.heap.size [.int .u8 bsn, .int .u8 fsn, .bool bb, .bool bib, .int .u8 2, .int .u8 0, .bool false, .slice (some ⟨g, 0, none⟩) 3 c] 69 →
      BS ((w1.setCell ⟨b, 3, none⟩ (.int .u8 fsn)).setCell ⟨b, 4, none⟩ (.bool false)) b h fib bib fsn false ag q0 q1 i1 false ∧ Fr (· = b) w ((w1.setCell ⟨b, 3, none⟩ (.int .u8 fsn)).setCell ⟨b, 4, none⟩ (.bool false)) ∧
      ((w1.setCell ⟨b, 3, none⟩ (.int .u8 fsn)).setCell ⟨b, 4, none⟩ (.bool false)).cell? ⟨w.heap.size, 7, none⟩ = some (.slice (some ⟨g, 0, none⟩) 3 c) ∧
      (∀ j u, xs[j]? = some u → ((w1.setCell ⟨b, 3, none⟩ (.int .u8 fsn)).setCell ⟨b, 4, none⟩ (.bool false)).cell? ⟨g, j, none⟩ = some u) := by
    intro w1 hb hF hU
    have hF' : Fr (· = b) w1 ((w1.setCell ⟨b, 3, none⟩ (.int .u8 fsn)).setCell ⟨b, 4, none⟩ (.bool false)) := Fr.setCell (S := (· = b)) (p := ⟨b, 4, none⟩) (Fr.setCell (S := (· = b)) (p := ⟨b, 3, none⟩) (Fr.refl _ w1) (.inl rfl) _) (.inl rfl) _
    refine ⟨Blk.set (Blk.set hb 3 (.int .u8 fsn)) 4 (.bool false), hF.then_ hF', Blk.cell (Blk.fr hU hF' (by omega)) 7 rfl, fun j u hj => ?_⟩
    have h1 := HX.out j u hj
    rw [← h1]
    exact World.cell?_of_block (w := w) ((hF.then_ hF').block _ (World.block_lt_of_cell? _ _ h1) hg)
  have Hfin := Lib.hid hfin
  clear hx hl h1 hfin hU hB1 hF1
  cases bib
  all_goals
    go_enter Try.func38, Try.ntmps38
    go_upto_region 3 with fail
    go_region
    clear u1 u3 k2
    generalize (w.alloc (.cells #[.int .u8 bsn, .int .u8 fsn, .bool bb, .bool _, .int .u8 2, .int .u8 0, .bool false, .slice (some ⟨g, 0, none⟩) 3 c] 69)).drew = W at hU2 hB2 hF2 hz2 ⊢
    go_wp2_with fail
    refine (see8 b h fib _ last asked ag q0 q1 i0 i1 false W hB2).mono ?_
    rintro e w1 ⟨rfl, hBs, hFs⟩
    have hU3 := Blk.fr hU2 hFs (by omega)
    have k3 := Blk.cell hBs 3 rfl
    have k4 := Blk.cell hBs 4 rfl
    have f3 := Blk.frozen hBs 3
    have f4 := Blk.frozen hBs 4
    have u1 := Blk.cell hU3 1 rfl
    have u4 := Blk.cell hU3 4 rfl
    obtain ⟨r1, r2, r3, r4⟩ := Hfin.out w1 hBs (hF2.then_ hFs) hU3
    clear hU2 hB2 hU3 hBs
    go_wp2_with fail
    refine (next_is last w1).mono ?_
    rw [hn]
    rintro e _ ⟨rfl, rfl⟩
    go_wp2_with fail
    refine (clone_is g 3 c xs _ r4 HL.out (by decide) (by decide) H1.out).mono ?_
    rintro e w8 ⟨g8, c8, rfl, hb8, hg8, hx8⟩
    go_wp2
    refine bodyPost_ret (v := .tuple #[.slice (some ⟨g8, 0, none⟩) 3 c8, .bool true, .int .i64 0]) (by simp [results, Try.results38, go_sem]) rfl ?_
    exact ⟨g8, c8, rfl, Blk.below r1 hb8, r2.then_ (.of_below hb8), hx8, Nat.le_trans r2.size hg8⟩
end Go.Proofs.Ytadheikcgdhcdaa
