/-
  The basic way in any state: its head, its units, what goes next.
-/
import Derived.Test.YtadheikcgdhcdaaHxT
namespace Go.Proofs.Ytadheikcgdhcdaa
open Go.RowKit
set_option linter.unusedVariables false
set_option linter.unusedSimpArgs false

/-- A basic way's state. -/
structure BSt where
  fib : Bool
  bib : Bool
  last : Int
  asked : Bool
  ag : Int
  q0 : Bool
  q1 : Bool
  i0 : Bool
  i1 : Bool
  f : Int
  ss : List (List Int)
  ns : List (List Int)
/-- A basic way in a world. -/
structure BX (w : World) (b h : Nat) (m o : Int) (sv nv : Value) (s : BSt) : Prop where
  bs : BS w b h s.fib s.bib s.last s.asked s.ag s.q0 s.q1 s.i0 s.i1
  hx : HX w h m o s.f sv nv s.ss s.ns
  inv : s.ag = -1 ∨ (0 ≤ s.ag ∧ s.ag < s.ss.length)
  lst : 0 ≤ s.last ∧ s.last ≤ 127
/-- What an act on a basic way leaves as it was. -/
structure BF (w w' : World) (b h : Nat) (sv nv sv' nv' : Value) : Prop where
  fr : Fr (fun q => q = b ∨ q = h ∨ Ro sv nv q) w w'
  own : ∀ q, Ro sv' nv' q → Ro sv nv q ∨ w.heap.size ≤ q

theorem BF.refl (w : World) (b h : Nat) (sv nv : Value) : BF w w b h sv nv sv nv := ⟨Fr.refl _ _, fun _ h => .inl h⟩
theorem BF.of_below {w w1 : World} {b h : Nat} (sv nv : Value) (hb : Below w.heap.size w w1) : BF w w1 b h sv nv sv nv := ⟨.of_below hb, fun _ h => .inl h⟩
theorem BF.below {w w1 w2 : World} {b h : Nat} {sv nv sv1 nv1 : Value} (a : BF w w1 b h sv nv sv1 nv1) (hb : Below w1.heap.size w1 w2) : BF w w2 b h sv nv sv1 nv1 := ⟨a.fr.then_ (.of_below hb), a.own⟩
theorem BF.drewN {w w1 : World} {b h : Nat} {sv nv sv1 nv1 : Value} (a : BF w w1 b h sv nv sv1 nv1) (n : Nat) : BF w (w1.drewN n) b h sv nv sv1 nv1 := ⟨a.fr.drewN n, a.own⟩
theorem BF.trans {w w1 w2 : World} {b h : Nat} {sv nv sv1 nv1 sv2 nv2 : Value} (a : BF w w1 b h sv nv sv1 nv1) (c : BF w1 w2 b h sv1 nv1 sv2 nv2) : BF w w2 b h sv nv sv2 nv2 := by
  refine ⟨a.fr.trans c.fr ?_, fun q hq => ?_⟩
  · rintro i hi (e | e | e)
    · exact .inl e
    · exact .inr (.inl e)
    · rcases a.own i e with e | e
      · exact .inr (.inr e)
      · omega
  · rcases c.own q hq with e | e
    · exact a.own q e
    · exact .inr (Nat.le_trans a.fr.size e)
theorem BF.of_hf {w w1 : World} {b h : Nat} {sv nv sv1 nv1 : Value} (a : HF w w1 h sv nv sv1 nv1) : BF w w1 b h sv nv sv1 nv1 := ⟨a.fr.mono (fun q hq => .inr hq), a.own⟩
theorem BF.of_b {w w1 : World} {b h : Nat} {sv nv : Value} (a : Fr (fun q => q = b) w w1) : BF w w1 b h sv nv sv nv := ⟨a.mono (fun q hq => .inl hq), fun _ h => .inl h⟩
theorem BF.row {w w1 : World} {b h r : Nat} {sv nv sv1 nv1 : Value} (a : BF w w1 b h sv nv sv1 nv1) (hr : w.heap.size ≤ r) (ds : Array Value) : BF w (w1.setRow r ds) b h sv nv sv1 nv1 := ⟨a.fr.row (.inr hr) ds, a.own⟩
/-- A basic way behind what only adds. -/
theorem BX.below {w w' : World} {b h : Nat} {m o : Int} {sv nv : Value} {s : BSt} (k : BX w b h m o sv nv s) (hb : Below w.heap.size w w') : BX w' b h m o sv nv s := ⟨Blk.below k.bs hb, k.hx.below hb, k.inv, k.lst⟩
theorem BX.drewN {w : World} {b h : Nat} {m o : Int} {sv nv : Value} {s : BSt} (k : BX w b h m o sv nv s) (n : Nat) : BX (w.drewN n) b h m o sv nv s := ⟨Blk.drewN k.bs n, k.hx.drewN n, k.inv, k.lst⟩
theorem HX.setRow {w : World} {h r : Nat} {m o f : Int} {sv nv : Value} {ss ns : List (List Int)} {cs : List Value} {T : TypeId} (k : HX w h m o f sv nv ss ns) (hB : Blk w r cs T) (h1 : T ≠ 105) (h2 : T ≠ 33) (h3 : T ≠ 5) (ds : Array Value) : HX (w.setRow r ds) h m o f sv nv ss ns := by
  refine k.fr (Fr.row1 w r ds) (fun e => hB.apart k.blk h1 e.symm) (fun q hq e => ?_) (fun g cs hG e => hB.apart hG h3 e.symm)
  obtain ⟨ds, hd⟩ := k.row33 hq
  exact hB.apart hd h2 e.symm
theorem BX.setRow {w : World} {b h r : Nat} {m o : Int} {sv nv : Value} {s : BSt} {cs : List Value} {T : TypeId} (k : BX w b h m o sv nv s) (hB : Blk w r cs T) (h1 : T ≠ 105) (h2 : T ≠ 33) (h3 : T ≠ 5) (h4 : T ≠ 116) (ds : Array Value) : BX (w.setRow r ds) b h m o sv nv s :=
  ⟨Blk.fr k.bs (Fr.row1 w r ds) (fun e => hB.apart k.bs h4 e.symm), k.hx.setRow hB h1 h2 h3 ds, k.inv, k.lst⟩
theorem BX.far {w w' : World} {b h : Nat} {m o : Int} {sv nv sv' nv' : Value} {s : BSt} (k : BX w b h m o sv nv s) (hF : HF w w' h sv nv sv' nv') : BS w' b h s.fib s.bib s.last s.asked s.ag s.q0 s.q1 s.i0 s.i1 := k.hx.keep hF k.bs (by decide) (by decide)
/-- Blocks of types that no basic way writes are as they were. -/
theorem BX.keep {w w' : World} {b h : Nat} {m o : Int} {sv nv sv' nv' : Value} {s : BSt} (k : BX w b h m o sv nv s) (hF : BF w w' b h sv nv sv' nv') {r : Nat} {cs : List Value} {T : TypeId} (hB : Blk w r cs T) (h1 : T ≠ 105) (h2 : T ≠ 33) (h3 : T ≠ 116) : Blk w' r cs T := by
  refine hB.fr hF.fr ?_
  rintro (e | e | e)
  · exact hB.apart k.bs h3 e
  · exact hB.apart k.hx.blk h1 e
  · obtain ⟨ds, hd⟩ := k.hx.row33 e
    exact hB.apart hd h2 rfl

theorem bhead {w : World} {b h : Nat} {fib bib : Bool} {last : Int} {asked : Bool} {ag : Int} {q0 q1 i0 i1 : Bool} (hB : BS w b h fib bib last asked ag q0 q1 i0 i1) (n : Int) : Calls Try.prog 82 #[.pointer (some ⟨b, 0, none⟩), .int .u8 n] w fun e w' => e = .returned (.agg #[.int .u8 last, .int .u8 n, .bool bib, .bool fib, .int .u8 0, .int .u8 0, .bool false, .slice none 0 0]) ∧ Below w.heap.size w w' := by
  have c1 := Blk.cell hB 1 rfl
  have c2 := Blk.cell hB 2 rfl
  have c3 := Blk.cell hB 3 rfl
  have hl := Blk.lt hB
  go_enter Try.func82, Try.ntmps82
  go_upto_region 1 with fail
  go_region
  all_goals go_wp2
  all_goals refine bodyPost_ret (v := .agg #[.int .u8 last, .int .u8 n, .bool bib, .bool fib, .int .u8 0, .int .u8 0, .bool false, .slice none 0 0]) (by simp [results, Try.results82, go_sem]) rfl ?_
  all_goals first | exact ⟨rfl, (Below.refl _ _).alloc (Nat.le_refl _) _⟩ | exact ⟨rfl, below_drewN ((Below.refl _ _).alloc (Nat.le_refl _) _) 1⟩
theorem bmessage {w : World} {b h : Nat} {fib bib : Bool} {last : Int} {asked : Bool} {ag : Int} {q0 q1 i0 i1 : Bool} (hB : BS w b h fib bib last asked ag q0 q1 i0 i1) (n : Int) (g l c : Nat) :
    Calls Try.prog 83 #[.pointer (some ⟨b, 0, none⟩), .int .u8 n, .slice (some ⟨g, 0, none⟩) l c] w fun e w' => e = .returned (.agg #[.int .u8 last, .int .u8 n, .bool bib, .bool fib, .int .u8 2, .int .u8 0, .bool false, .slice (some ⟨g, 0, none⟩) l c]) ∧ Below w.heap.size w w' := by
  have hR0 := Blk.new w unit0 69
  have hB0 : BS (w.alloc (.cells unit0.toArray 69)) b h fib bib last asked ag q0 q1 i0 i1 := Blk.alloc hB _
  have hB1 : Below w.heap.size w (w.alloc (.cells unit0.toArray 69)) := (Below.refl _ _).alloc (Nat.le_refl _) _
  go_enter Try.func83, Try.ntmps83
  go_wp2_with fail
  refine (bhead hB0 n).mono ?_
  rintro e w1 ⟨rfl, hb⟩
  have hR1 := Blk.below hR0 hb
  have hR2 : Blk (w1.alloc (.cells #[.int .u8 last, .int .u8 n, .bool bib, .bool fib, .int .u8 2, .int .u8 0, .bool false, .slice (some ⟨g, 0, none⟩) l c] 69)) w.heap.size unit0 69 := Blk.alloc hR1 _
  have hb2 : Below w.heap.size w w1 := hB1.trans (hb.mono (by simp))
  have hb3 : Below w.heap.size w (w1.alloc (.cells #[.int .u8 last, .int .u8 n, .bool bib, .bool fib, .int .u8 2, .int .u8 0, .bool false, .slice (some ⟨g, 0, none⟩) l c] 69)) := hb2.alloc hb2.size _
  have hres := Blk.row hR2 [.int .u8 last, .int .u8 n, .bool bib, .bool fib, .int .u8 2, .int .u8 0, .bool false, .slice (some ⟨g, 0, none⟩) l c]
  have r0 := Blk.cell hres 0 rfl
  have r1 := Blk.cell hres 1 rfl
  have r2 := Blk.cell hres 2 rfl
  have r3 := Blk.cell hres 3 rfl
  have r4 := Blk.cell hres 4 rfl
  have r5 := Blk.cell hres 5 rfl
  have r6 := Blk.cell hres 6 rfl
  have r7 := Blk.cell hres 7 rfl
  have hK := hR2
  unfold Blk at hK
  go_wp2_with (refine wpList_store_row rfl 69 (.tmp 6) (.tmp 14) rfl w.heap.size #[.int .u8 last, .int .u8 n, .bool bib, .bool fib, .int .u8 2, .int .u8 0, .bool false, .slice (some ⟨g, 0, none⟩) l c] rfl rfl 69 _ hK (by kernel_rfl) rfl (by simp [Value.oneCell']) ?_)
  refine bodyPost_ret (v := .agg #[.int .u8 last, .int .u8 n, .bool bib, .bool fib, .int .u8 2, .int .u8 0, .bool false, .slice (some ⟨g, 0, none⟩) l c]) (by simp [results, Try.results83, go_sem, r0, r1, r2, r3, r4, r5, r6, r7]) rfl ?_
  exact ⟨rfl, below_row hb3 (Nat.le_refl _) _⟩
theorem BX.fill {w : World} {b h : Nat} {m o : Int} {sv nv : Value} {s : BSt} (k : BX w b h m o sv nv s) :
    Calls Try.prog 39 #[.pointer (some ⟨b, 0, none⟩)] w fun e w' => e = .returned (.agg #[.int .u8 s.last, .int .u8 ((s.f + s.ss.length - 1) % 128), .bool s.bib, .bool s.fib, .int .u8 0, .int .u8 0, .bool false, .slice none 0 0]) ∧ Below w.heap.size w w' := by
  have hR0 := Blk.new w unit0 69
  have hB1 : Below w.heap.size w (w.alloc (.cells unit0.toArray 69)) := (Below.refl _ _).alloc (Nat.le_refl _) _
  have k1 := k.below hB1
  have k0 := Blk.cell k1.bs 0 rfl
  obtain ⟨N, hN⟩ : ∃ N, (s.f + (s.ss.length : Int) - 1) % 128 = N := ⟨_, rfl⟩
  have hl := k1.hx.last
  rw [hN] at hl ⊢
  go_enter Try.func39, Try.ntmps39
  go_wp2_with fail
  refine hl.mono ?_
  rintro e w1 ⟨rfl, n1, rfl⟩
  clear k0 hl
  go_wp2_with fail
  refine (bhead (k1.drewN n1).bs N).mono ?_
  rintro e w2 ⟨rfl, hb⟩
  have hR2 := Blk.below (Blk.drewN hR0 n1) hb
  have hb2 : Below w.heap.size w w2 := (below_drewN hB1 n1).trans (hb.mono (by show w.heap.size ≤ (w.alloc _).heap.size; simp))
  have hres := Blk.row hR2 [.int .u8 s.last, .int .u8 N, .bool s.bib, .bool s.fib, .int .u8 0, .int .u8 0, .bool false, .slice none 0 0]
  have r0 := Blk.cell hres 0 rfl
  have r1 := Blk.cell hres 1 rfl
  have r2 := Blk.cell hres 2 rfl
  have r3 := Blk.cell hres 3 rfl
  have r4 := Blk.cell hres 4 rfl
  have r5 := Blk.cell hres 5 rfl
  have r6 := Blk.cell hres 6 rfl
  have r7 := Blk.cell hres 7 rfl
  have hK := hR2
  unfold Blk at hK
  go_wp2_with (refine wpList_store_row rfl 69 (.tmp 2) (.tmp 12) rfl w.heap.size #[.int .u8 s.last, .int .u8 N, .bool s.bib, .bool s.fib, .int .u8 0, .int .u8 0, .bool false, .slice none 0 0] rfl rfl 69 _ hK (by kernel_rfl) rfl (by simp [Value.oneCell']) ?_)
  refine bodyPost_ret (v := .agg #[.int .u8 s.last, .int .u8 N, .bool s.bib, .bool s.fib, .int .u8 0, .int .u8 0, .bool false, .slice none 0 0]) (by simp [results, Try.results39, go_sem, r0, r1, r2, r3, r4, r5, r6, r7]) rfl ?_
  exact ⟨rfl, below_row hb2 (Nat.le_refl _) _⟩
theorem BX.taken {w : World} {b h : Nat} {m o : Int} {sv nv : Value} {s : BSt} (k : BX w b h m o sv nv s) : Calls Try.prog 40 #[.pointer (some ⟨b, 0, none⟩)] w fun e w' => e = .returned (.int .u8 s.last) ∧ w' = w := by
  have c3 := Blk.cell k.bs 3 rfl
  clear k
  go_enter Try.func40, Try.ntmps40
  go_wp2
  go_ret
  exact ⟨rfl, rfl⟩
theorem BX.hold {w : World} {b h : Nat} {m o : Int} {sv nv : Value} {s : BSt} (k : BX w b h m o sv nv s) : Calls Try.prog 41 #[.pointer (some ⟨b, 0, none⟩)] w fun e w' => e = .returned (.pointer (some ⟨h, 0, none⟩)) ∧ w' = w := by
  have c0 := Blk.cell k.bs 0 rfl
  clear k
  go_enter Try.func41, Try.ntmps41
  go_wp2
  go_ret
  exact ⟨rfl, rfl⟩
theorem BX.resends {w : World} {b h : Nat} {m o : Int} {sv nv : Value} {s : BSt} (k : BX w b h m o sv nv s) : Calls Try.prog 44 #[.pointer (some ⟨b, 0, none⟩)] w fun e w' => e = .returned (.bool (decide (0 ≤ s.ag))) ∧ w' = w := by
  have c0 := Blk.cell k.bs 5 rfl
  clear k
  go_enter Try.func44, Try.ntmps44
  go_wp2
  go_ret
  exact ⟨rfl, rfl⟩
end Go.Proofs.Ytadheikcgdhcdaa
