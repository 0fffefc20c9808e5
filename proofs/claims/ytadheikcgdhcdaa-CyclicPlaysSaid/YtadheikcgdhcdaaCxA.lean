/-
  The cyclic way in any state: its head, its units, whether one more fits.
-/
import Derived.Test.YtadheikcgdhcdaaBxO
namespace Go.Proofs.Ytadheikcgdhcdaa
open Go.RowKit
set_option linter.unusedVariables false
set_option linter.unusedSimpArgs false

/-- A cyclic way's state. -/
structure CSt where
  n1 : Int
  n2 : Int
  last : Int
  pl : Nat
  force : Bool
  q0 : Bool
  q1 : Bool
  f : Int
  ss : List (List Int)
  ns : List (List Int)
def CS (w : World) (b h : Nat) (n1 n2 last pl : Int) (force q0 q1 : Bool) : Prop := Blk w b [.pointer (some ⟨h, 0, none⟩), .int .i64 n1, .int .i64 n2, .int .u8 last, .int .i64 pl, .bool force, .bool q0, .bool q1] 120
/-- A cyclic way in a world. -/
structure CX (w : World) (b h : Nat) (m o : Int) (sv nv : Value) (s : CSt) : Prop where
  cs : CS w b h s.n1 s.n2 s.last s.pl s.force s.q0 s.q1
  hx : HX w h m o s.f sv nv s.ss s.ns
  inv : s.pl ≤ s.ss.length
  lst : 0 ≤ s.last ∧ s.last ≤ 127
theorem CX.below {w w' : World} {b h : Nat} {m o : Int} {sv nv : Value} {s : CSt} (k : CX w b h m o sv nv s) (hb : Below w.heap.size w w') : CX w' b h m o sv nv s := ⟨Blk.below k.cs hb, k.hx.below hb, k.inv, k.lst⟩
theorem CX.drewN {w : World} {b h : Nat} {m o : Int} {sv nv : Value} {s : CSt} (k : CX w b h m o sv nv s) (n : Nat) : CX (w.drewN n) b h m o sv nv s := ⟨Blk.drewN k.cs n, k.hx.drewN n, k.inv, k.lst⟩
theorem CX.setRow {w : World} {b h r : Nat} {m o : Int} {sv nv : Value} {s : CSt} {cs : List Value} {T : TypeId} (k : CX w b h m o sv nv s) (hB : Blk w r cs T) (h1 : T ≠ 105) (h2 : T ≠ 33) (h3 : T ≠ 5) (h4 : T ≠ 120) (ds : Array Value) : CX (w.setRow r ds) b h m o sv nv s :=
  ⟨Blk.fr k.cs (Fr.row1 w r ds) (fun e => hB.apart k.cs h4 e.symm), k.hx.setRow hB h1 h2 h3 ds, k.inv, k.lst⟩
theorem CX.far {w w' : World} {b h : Nat} {m o : Int} {sv nv sv' nv' : Value} {s : CSt} (k : CX w b h m o sv nv s) (hF : HF w w' h sv nv sv' nv') : CS w' b h s.n1 s.n2 s.last s.pl s.force s.q0 s.q1 := k.hx.keep hF k.cs (by decide) (by decide)
theorem CX.keep {w w' : World} {b h : Nat} {m o : Int} {sv nv sv' nv' : Value} {s : CSt} (k : CX w b h m o sv nv s) (hF : BF w w' b h sv nv sv' nv') {r : Nat} {cs : List Value} {T : TypeId} (hB : Blk w r cs T) (h1 : T ≠ 105) (h2 : T ≠ 33) (h3 : T ≠ 120) : Blk w' r cs T := by
  refine hB.fr hF.fr ?_
  rintro (e | e | e)
  · exact hB.apart k.cs h3 e
  · exact hB.apart k.hx.blk h1 e
  · obtain ⟨ds, hd⟩ := k.hx.row33 e
    exact hB.apart hd h2 rfl
theorem HX.bfr120 {w w' : World} {b h : Nat} {m o f : Int} {sv nv : Value} {ss ns : List (List Int)} {cs : List Value} (k : HX w h m o f sv nv ss ns) (hB : Blk w b cs 120) (hF : Fr (· = b) w w') : HX w' h m o f sv nv ss ns :=
  k.fr hF (fun e => (hB.apart k.blk (by decide)) e.symm) (fun q hq e => by obtain ⟨ds, hd⟩ := k.row33 hq; exact (hd.apart hB (by decide)) e) (fun g cs hG e => (hG.apart hB (by decide)) e)

theorem chead {w : World} {b h : Nat} {n1 n2 last pl : Int} {force q0 q1 : Bool} (hB : CS w b h n1 n2 last pl force q0 q1) (n : Int) : Calls Try.prog 89 #[.pointer (some ⟨b, 0, none⟩), .int .u8 n] w fun e w' => e = .returned (.agg #[.int .u8 last, .int .u8 n, .bool true, .bool true, .int .u8 0, .int .u8 0, .bool false, .slice none 0 0]) ∧ Below w.heap.size w w' := by
  have c3 := Blk.cell hB 3 rfl
  have hl := Blk.lt hB
  go_enter Try.func89, Try.ntmps89
  go_wp2
  refine bodyPost_ret (v := .agg #[.int .u8 last, .int .u8 n, .bool true, .bool true, .int .u8 0, .int .u8 0, .bool false, .slice none 0 0]) (by simp [results, Try.results89, go_sem]) rfl ?_
  exact ⟨rfl, (Below.refl _ _).alloc (Nat.le_refl _) _⟩
theorem cmessage {w : World} {b h : Nat} {n1 n2 last pl : Int} {force q0 q1 : Bool} (hB : CS w b h n1 n2 last pl force q0 q1) (n : Int) (g l c : Nat) :
    Calls Try.prog 85 #[.pointer (some ⟨b, 0, none⟩), .int .u8 n, .slice (some ⟨g, 0, none⟩) l c] w fun e w' => e = .returned (.agg #[.int .u8 last, .int .u8 n, .bool true, .bool true, .int .u8 2, .int .u8 0, .bool false, .slice (some ⟨g, 0, none⟩) l c]) ∧ Below w.heap.size w w' := by
  have hR0 := Blk.new w unit0 69
  have hB0 : CS (w.alloc (.cells unit0.toArray 69)) b h n1 n2 last pl force q0 q1 := Blk.alloc hB _
  have hB1 : Below w.heap.size w (w.alloc (.cells unit0.toArray 69)) := (Below.refl _ _).alloc (Nat.le_refl _) _
  go_enter Try.func85, Try.ntmps85
  go_wp2_with fail
  refine (chead hB0 n).mono ?_
  rintro e w1 ⟨rfl, hb⟩
  have hR1 := Blk.below hR0 hb
  have hR2 : Blk (w1.alloc (.cells #[.int .u8 last, .int .u8 n, .bool true, .bool true, .int .u8 2, .int .u8 0, .bool false, .slice (some ⟨g, 0, none⟩) l c] 69)) w.heap.size unit0 69 := Blk.alloc hR1 _
  have hb2 : Below w.heap.size w w1 := hB1.trans (hb.mono (by simp))
  have hb3 : Below w.heap.size w (w1.alloc (.cells #[.int .u8 last, .int .u8 n, .bool true, .bool true, .int .u8 2, .int .u8 0, .bool false, .slice (some ⟨g, 0, none⟩) l c] 69)) := hb2.alloc hb2.size _
  have hres := Blk.row hR2 [.int .u8 last, .int .u8 n, .bool true, .bool true, .int .u8 2, .int .u8 0, .bool false, .slice (some ⟨g, 0, none⟩) l c]
  have r0 := Blk.cell hres 0 rfl
  have r1 := Blk.cell hres 1 rfl
  have r2 := Blk.cell hres 2 rfl
  have r3 := Blk.cell hres 3 rfl
  have r4 := Blk.cell hres 4 rfl
  have r5 := Blk.cell hres 5 rfl
  have r6 := Blk.cell hres 6 rfl
  have r7 := Blk.cell hres 7 rfl
  have hK := hR2
  unfold Blk at hK
  go_wp2_with (refine wpList_store_row rfl 69 (.tmp 6) (.tmp 14) rfl w.heap.size #[.int .u8 last, .int .u8 n, .bool true, .bool true, .int .u8 2, .int .u8 0, .bool false, .slice (some ⟨g, 0, none⟩) l c] rfl rfl 69 _ hK (by kernel_rfl) rfl (by simp [Value.oneCell']) ?_)
  refine bodyPost_ret (v := .agg #[.int .u8 last, .int .u8 n, .bool true, .bool true, .int .u8 2, .int .u8 0, .bool false, .slice (some ⟨g, 0, none⟩) l c]) (by simp [results, Try.results85, go_sem, r0, r1, r2, r3, r4, r5, r6, r7]) rfl ?_
  exact ⟨rfl, below_row hb3 (Nat.le_refl _) _⟩
theorem CX.fill {w : World} {b h : Nat} {m o : Int} {sv nv : Value} {s : CSt} (k : CX w b h m o sv nv s) :
    Calls Try.prog 60 #[.pointer (some ⟨b, 0, none⟩)] w fun e w' => e = .returned (.agg #[.int .u8 s.last, .int .u8 ((s.f + s.ss.length - 1) % 128), .bool true, .bool true, .int .u8 0, .int .u8 0, .bool false, .slice none 0 0]) ∧ Below w.heap.size w w' := by
  have hR0 := Blk.new w unit0 69
  have hB1 : Below w.heap.size w (w.alloc (.cells unit0.toArray 69)) := (Below.refl _ _).alloc (Nat.le_refl _) _
  have k1 := k.below hB1
  have k0 := Blk.cell k1.cs 0 rfl
  obtain ⟨N, hN⟩ : ∃ N, (s.f + (s.ss.length : Int) - 1) % 128 = N := ⟨_, rfl⟩
  have hl := k1.hx.last
  rw [hN] at hl ⊢
  go_enter Try.func60, Try.ntmps60
  go_wp2_with fail
  refine hl.mono ?_
  rintro e w1 ⟨rfl, n1, rfl⟩
  clear k0 hl
  go_wp2_with fail
  refine (chead (k1.drewN n1).cs N).mono ?_
  rintro e w2 ⟨rfl, hb⟩
  have hR2 := Blk.below (Blk.drewN hR0 n1) hb
  have hb2 : Below w.heap.size w w2 := (below_drewN hB1 n1).trans (hb.mono (by show w.heap.size ≤ (w.alloc _).heap.size; simp))
  have hres := Blk.row hR2 [.int .u8 s.last, .int .u8 N, .bool true, .bool true, .int .u8 0, .int .u8 0, .bool false, .slice none 0 0]
  have r0 := Blk.cell hres 0 rfl
  have r1 := Blk.cell hres 1 rfl
  have r2 := Blk.cell hres 2 rfl
  have r3 := Blk.cell hres 3 rfl
  have r4 := Blk.cell hres 4 rfl
  have r5 := Blk.cell hres 5 rfl
  have r6 := Blk.cell hres 6 rfl
  have r7 := Blk.cell hres 7 rfl
  have hK := hR2
  unfold Blk at hK
  go_wp2_with (refine wpList_store_row rfl 69 (.tmp 2) (.tmp 12) rfl w.heap.size #[.int .u8 s.last, .int .u8 N, .bool true, .bool true, .int .u8 0, .int .u8 0, .bool false, .slice none 0 0] rfl rfl 69 _ hK (by kernel_rfl) rfl (by simp [Value.oneCell']) ?_)
  refine bodyPost_ret (v := .agg #[.int .u8 s.last, .int .u8 N, .bool true, .bool true, .int .u8 0, .int .u8 0, .bool false, .slice none 0 0]) (by simp [results, Try.results60, go_sem, r0, r1, r2, r3, r4, r5, r6, r7]) rfl ?_
  exact ⟨rfl, below_row hb2 (Nat.le_refl _) _⟩
theorem CX.taken {w : World} {b h : Nat} {m o : Int} {sv nv : Value} {s : CSt} (k : CX w b h m o sv nv s) : Calls Try.prog 59 #[.pointer (some ⟨b, 0, none⟩)] w fun e w' => e = .returned (.int .u8 s.last) ∧ w' = w := by
  have c3 := Blk.cell k.cs 3 rfl
  clear k
  go_enter Try.func59, Try.ntmps59
  go_wp2
  go_ret
  exact ⟨rfl, rfl⟩
theorem CX.hold {w : World} {b h : Nat} {m o : Int} {sv nv : Value} {s : CSt} (k : CX w b h m o sv nv s) : Calls Try.prog 47 #[.pointer (some ⟨b, 0, none⟩)] w fun e w' => e = .returned (.pointer (some ⟨h, 0, none⟩)) ∧ w' = w := by
  have c0 := Blk.cell k.cs 0 rfl
  clear k
  go_enter Try.func47, Try.ntmps47
  go_wp2
  go_ret
  exact ⟨rfl, rfl⟩
theorem CX.resends {w : World} {b h : Nat} {m o : Int} {sv nv : Value} {s : CSt} (k : CX w b h m o sv nv s) : Calls Try.prog 49 #[.pointer (some ⟨b, 0, none⟩)] w fun e w' => e = .returned (.bool s.force) ∧ w' = w := by
  have c0 := Blk.cell k.cs 5 rfl
  clear k
  go_enter Try.func49, Try.ntmps49
  go_wp2
  go_ret
  exact ⟨rfl, rfl⟩
/-- May one more wait? -/
def fitsB (s : CSt) : Bool := decide (s.ss.length = 0) || (decide ((s.ss.length : Int) < s.n1) && decide (octs s.ss + size1 s.ns ≤ s.n2))
theorem size1_bd {w : World} {h : Nat} {m o f : Int} {sv nv : Value} {ss ns : List (List Int)} (k : HX w h m o f sv nv ss ns) : 0 ≤ size1 ns ∧ size1 ns ≤ 300 := by
  cases ns with
  | nil => exact ⟨Int.le_refl _, by decide⟩
  | cons x r => have := k.len x (.inr (List.mem_cons_self ..)); show 0 ≤ (x.length : Int) ∧ (x.length : Int) ≤ 300; omega
theorem CX.fits {w : World} {b h : Nat} {m o : Int} {sv nv : Value} {s : CSt} (k : CX w b h m o sv nv s) :
    Calls Try.prog 84 #[.pointer (some ⟨b, 0, none⟩)] w fun e w' => e = .returned (.bool (fitsB s)) ∧ ∃ n, w' = w.drewN n := by
  have c0 := Blk.cell k.cs 0 rfl
  have c1 := Blk.cell k.cs 1 rfl
  have c2 := Blk.cell k.cs 2 rfl
  have hs := fun n => (k.hx.drewN n).sent
  have hw := fun n => (k.hx.drewN n).waiting
  have hz := fun n => (k.hx.drewN n).size
  have h1 := size1_bd k.hx
  have h2 := octs_bd s.ss (fun x hx => by have := k.hx.len x (.inl hx); omega)
  have h3 := k.hx.win
  have hwr : IntKind.i64.wrap (octs s.ss + size1 s.ns) = octs s.ss + size1 s.ns := wrapH _ (by omega)
  unfold fitsB
  generalize octs s.ss = A at *
  generalize size1 s.ns = B at *
  generalize s.ss.length = L at *
  clear k h1 h2 h3
  by_cases e1 : L = 0
  · subst e1
    go_enter Try.func84, Try.ntmps84
    go_upto_region 1 with fail
    go_quiet (first | (go_at_call 24; exact Calls.quiet_of_same (hs _)) | (go_at_call 51; exact Calls.quiet_of_same (hw _)) | (go_at_call 80; exact Calls.quiet_of_same (hz _)))
    go_wp2
    go_ret
    exact ⟨rfl, _, rfl⟩
  · have e1' : ((L : Int) == 0) = false := by simpa using e1
    rw [show decide (L = 0) = false from by simpa using e1, Bool.false_or]
    by_cases e2 : (L : Int) < s.n1
    · rw [show decide ((L : Int) < s.n1) = true from by simpa using e2, Bool.true_and]
      go_enter Try.func84, Try.ntmps84
      go_upto_region 1 with fail
      go_quiet (first | (go_at_call 24; exact Calls.quiet_of_same (hs _)) | (go_at_call 51; exact Calls.quiet_of_same (hw _)) | (go_at_call 80; exact Calls.quiet_of_same (hz _)))
      go_wp2
      go_ret
      exact ⟨rfl, _, rfl⟩
    · rw [show decide ((L : Int) < s.n1) = false from by simpa using e2, Bool.false_and]
      go_enter Try.func84, Try.ntmps84
      go_upto_region 1 with fail
      go_quiet (first | (go_at_call 24; exact Calls.quiet_of_same (hs _)) | (go_at_call 51; exact Calls.quiet_of_same (hw _)) | (go_at_call 80; exact Calls.quiet_of_same (hz _)))
      go_wp2
      go_ret
      exact ⟨rfl, _, rfl⟩
end Go.Proofs.Ytadheikcgdhcdaa
