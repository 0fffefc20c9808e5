/-
  BasicAsks: where one is missing it is asked for again, once, till it comes; others are passed by.
-/
import Derived.Test.YtadheikcgdhcdaaTake
namespace Go.Proofs.Ytadheikcgdhcdaa
open Go.RowKit
set_option linter.unusedVariables false
set_option linter.unusedSimpArgs false

/-- It waits for one that was asked for again. -/
theorem take_wait (b h g c : Nat) (last fsn : Int) (i0 i1 : Bool) (w : World) (hB : BS w b h true false last true (-1) false false i0 i1) :
    Calls Try.prog 38 #[.pointer (some ⟨b, 0, none⟩), .agg #[.int .u8 0, .int .u8 fsn, .bool false, .bool true, .int .u8 2, .int .u8 0, .bool false, .slice (some ⟨g, 0, none⟩) 3 c]] w fun e w' =>
      e = .returned (.tuple #[.slice none 0 0, .bool false, .int .i64 0]) ∧ BS w' b h true false last true (-1) false false i1 false ∧ Fr (· = b) w w' := by
  have hlb := Blk.lt hB
  have hU := Blk.new w [.int .u8 0, .int .u8 fsn, .bool false, .bool true, .int .u8 2, .int .u8 0, .bool false, .slice (some ⟨g, 0, none⟩) 3 c] 69
  have hB1 : BS (w.alloc (.cells #[.int .u8 0, .int .u8 fsn, .bool false, .bool true, .int .u8 2, .int .u8 0, .bool false, .slice (some ⟨g, 0, none⟩) 3 c] 69)) b h true false last true (-1) false false i0 i1 := Blk.alloc hB _
  have hF1 : Fr (· = b) w (w.alloc (.cells #[.int .u8 0, .int .u8 fsn, .bool false, .bool true, .int .u8 2, .int .u8 0, .bool false, .slice (some ⟨g, 0, none⟩) 3 c] 69)) := (Fr.refl _ w).alloc _
  have u3 := Blk.cell hU 3 rfl
  have k2 := Blk.cell hB1 2 rfl
  have hB2 := Blk.drew hB1
  have hF2 := hF1.drew
  clear hB hU hB1 hF1
  go_enter Try.func38, Try.ntmps38
  go_upto_region 3 with fail
  go_region
  clear u3 k2
  generalize (w.alloc (.cells #[.int .u8 0, .int .u8 fsn, .bool false, .bool true, .int .u8 2, .int .u8 0, .bool false, .slice (some ⟨g, 0, none⟩) 3 c] 69)).drew = W at hB2 hF2 ⊢
  have k4 := Blk.cell hB2 4 rfl
  have hs := see8 b h true false last true (-1) false false i0 i1 false W.drew (Blk.drew hB2)
  go_upto_region 4 with fail
  go_region_with (go_at_call 26; refine hs.mono ?_; rintro e w1 ⟨rfl, hBs, hFs⟩)
  all_goals clear hs
  all_goals go_wp2
  all_goals refine bodyPost_ret (v := .tuple #[.slice none 0 0, .bool false, .int .i64 0]) (by simp [results, Try.results38, go_sem]) rfl ?_
  all_goals exact ⟨rfl, hBs, hF2.drew.then_ hFs⟩

/-- One is missing: it is asked for again. -/
theorem take_no (b h g c : Nat) (last fsn : Int) (i0 i1 : Bool) (w : World) (hB : BS w b h true true last false (-1) false false i0 i1) (hn : ((last + 1) % 128 == fsn) = false) (hn2 : (fsn == (last + 1) % 128) = false) (hl : (fsn == last) = false) :
    Calls Try.prog 38 #[.pointer (some ⟨b, 0, none⟩), .agg #[.int .u8 0, .int .u8 fsn, .bool false, .bool true, .int .u8 2, .int .u8 0, .bool false, .slice (some ⟨g, 0, none⟩) 3 c]] w fun e w' =>
      e = .returned (.tuple #[.slice none 0 0, .bool false, .int .i64 0]) ∧ BS w' b h true false last true (-1) false false i1 false ∧ Fr (· = b) w w' := by
  have hlb := Blk.lt hB
  have hU := Blk.new w [.int .u8 0, .int .u8 fsn, .bool false, .bool true, .int .u8 2, .int .u8 0, .bool false, .slice (some ⟨g, 0, none⟩) 3 c] 69
  have hB1 : BS (w.alloc (.cells #[.int .u8 0, .int .u8 fsn, .bool false, .bool true, .int .u8 2, .int .u8 0, .bool false, .slice (some ⟨g, 0, none⟩) 3 c] 69)) b h true true last false (-1) false false i0 i1 := Blk.alloc hB _
  have hF1 : Fr (· = b) w (w.alloc (.cells #[.int .u8 0, .int .u8 fsn, .bool false, .bool true, .int .u8 2, .int .u8 0, .bool false, .slice (some ⟨g, 0, none⟩) 3 c] 69)) := (Fr.refl _ w).alloc _
  have u3 := Blk.cell hU 3 rfl
  have k2 := Blk.cell hB1 2 rfl
  have hU2 := Blk.drew hU
  have hB2 := Blk.drew hB1
  have hF2 := hF1.drew
  clear hB hU hB1 hF1
  go_enter Try.func38, Try.ntmps38
  go_upto_region 3 with fail
  go_region
  clear u3 k2
  generalize (w.alloc (.cells #[.int .u8 0, .int .u8 fsn, .bool false, .bool true, .int .u8 2, .int .u8 0, .bool false, .slice (some ⟨g, 0, none⟩) 3 c] 69)).drew = W at hU2 hB2 hF2 ⊢
  go_wp2_with fail
  refine (see8 b h true true last false (-1) false false i0 i1 false W hB2).mono ?_
  rintro e w1 ⟨rfl, hBs, hFs⟩
  have hU3 := Blk.fr hU2 hFs (by omega)
  have k2 := Blk.cell hBs 2 rfl
  have k3 := Blk.cell hBs 3 rfl
  have k4 := Blk.cell hBs 4 rfl
  have f2 := Blk.frozen hBs 2
  have f4 := Blk.frozen hBs 4
  have u1 := Blk.cell hU3 1 rfl
  have u4 := Blk.cell hU3 4 rfl
  have hb4 : BS ((w1.drew.setCell ⟨b, 2, none⟩ (.bool false)).setCell ⟨b, 4, none⟩ (.bool true)) b h true false last true (-1) false false i1 false := Blk.set (Blk.set (Blk.drew hBs) 2 (.bool false)) 4 (.bool true)
  have hf4 : Fr (· = b) w ((w1.drew.setCell ⟨b, 2, none⟩ (.bool false)).setCell ⟨b, 4, none⟩ (.bool true)) := Fr.setCell (S := (· = b)) (p := ⟨b, 4, none⟩) (Fr.setCell (S := (· = b)) (p := ⟨b, 2, none⟩) ((hF2.then_ hFs).drew) (.inl rfl) _) (.inl rfl) _
  clear hU2 hB2 hU3 hBs
  go_wp2_with fail
  refine (next_is last w1).mono ?_
  rintro e _ ⟨rfl, rfl⟩
  go_upto_region 12 with fail
  go_region
  all_goals go_wp2
  all_goals refine bodyPost_ret (v := .tuple #[.slice none 0 0, .bool false, .int .i64 0]) (by simp [results, Try.results38, go_sem]) rfl ?_
  all_goals exact ⟨rfl, hb4, hf4⟩

theorem at_neg (w : World) : Calls Try.prog 91 #[.int .i64 (-1)] w fun e w' => e = .returned (.int .u8 127) ∧ w' = w := by
  have hb : bits .and .i64 (-1) 127 = 127 := by decide
  go_enter Try.func91, Try.ntmps91
  go_wp2
  go_ret
  exact ⟨rfl, rfl⟩
theorem last_none (h : Nat) (w : World) (hH : HB w h 5 1000 (.slice none 0 0) 0 (.slice none 0 0)) : Calls Try.prog 71 #[.pointer (some ⟨h, 0, none⟩)] w fun e w' => e = .returned (.int .u8 127) ∧ ∃ n, w' = w.drewN n := by
  have c2 := Blk.cell hH 2 rfl
  have c3 := Blk.cell hH 3 rfl
  go_enter Try.func71, Try.ntmps71
  go_upto_region 3 with fail
  go_quiet ((go_at_call 91; exact Calls.quiet_of_same (at_neg _)))
  go_wp2
  go_ret
  exact ⟨rfl, _, rfl⟩
theorem head_gen (b h : Nat) (n : Int) (bib : Bool) (last : Int) (asked : Bool) (i0 i1 : Bool) (w : World) (hB : BS w b h true bib last asked (-1) false false i0 i1) : Calls Try.prog 82 #[.pointer (some ⟨b, 0, none⟩), .int .u8 n] w fun e w' => e = .returned (.agg #[.int .u8 last, .int .u8 n, .bool bib, .bool true, .int .u8 0, .int .u8 0, .bool false, .slice none 0 0]) ∧ Below w.heap.size w w' := by
  have c1 := Blk.cell hB 1 rfl
  have c2 := Blk.cell hB 2 rfl
  have c3 := Blk.cell hB 3 rfl
  have hl := Blk.lt hB
  go_enter Try.func82, Try.ntmps82
  go_upto_region 1 with fail
  go_region
  all_goals go_wp2
  all_goals refine bodyPost_ret (v := .agg #[.int .u8 last, .int .u8 n, .bool bib, .bool true, .int .u8 0, .int .u8 0, .bool false, .slice none 0 0]) (by simp [results, Try.results82, go_sem]) rfl ?_
  all_goals first | exact ⟨rfl, (Below.refl _ _).alloc (Nat.le_refl _) _⟩ | exact ⟨rfl, below_drewN ((Below.refl _ _).alloc (Nat.le_refl _) _) 1⟩
theorem fill_is (b h : Nat) (bib : Bool) (last : Int) (asked : Bool) (i0 i1 : Bool) (w : World) (hB : BS w b h true bib last asked (-1) false false i0 i1) (hH : HB w h 5 1000 (.slice none 0 0) 0 (.slice none 0 0)) :
    Calls Try.prog 39 #[.pointer (some ⟨b, 0, none⟩)] w fun e w' => e = .returned (.agg #[.int .u8 last, .int .u8 127, .bool bib, .bool true, .int .u8 0, .int .u8 0, .bool false, .slice none 0 0]) ∧ Below w.heap.size w w' := by
  have hR0 := Blk.new w unit0 69
  have hB0 : BS (w.alloc (.cells unit0.toArray 69)) b h true bib last asked (-1) false false i0 i1 := Blk.alloc hB _
  have hH0 : HB (w.alloc (.cells unit0.toArray 69)) h 5 1000 (.slice none 0 0) 0 (.slice none 0 0) := Blk.alloc hH _
  have hB1 : Below w.heap.size w (w.alloc (.cells unit0.toArray 69)) := (Below.refl _ _).alloc (Nat.le_refl _) _
  have k0 := Blk.cell hB0 0 rfl
  go_enter Try.func39, Try.ntmps39
  go_wp2_with fail
  refine (last_none h _ hH0).mono ?_
  rintro e w1 ⟨rfl, n1, rfl⟩
  clear k0
  go_wp2_with fail
  refine (head_gen b h 127 bib last asked i0 i1 _ (Blk.drewN hB0 n1)).mono ?_
  rintro e w2 ⟨rfl, hb⟩
  have hR2 := Blk.below (Blk.drewN hR0 n1) hb
  have hb2 : Below w.heap.size w w2 := (below_drewN hB1 n1).trans (hb.mono (by show w.heap.size ≤ (w.alloc _).heap.size; simp))
  have hres := Blk.row hR2 [.int .u8 last, .int .u8 127, .bool bib, .bool true, .int .u8 0, .int .u8 0, .bool false, .slice none 0 0]
  have r0 := Blk.cell hres 0 rfl
  have r1 := Blk.cell hres 1 rfl
  have r2 := Blk.cell hres 2 rfl
  have r3 := Blk.cell hres 3 rfl
  have r4 := Blk.cell hres 4 rfl
  have r5 := Blk.cell hres 5 rfl
  have r6 := Blk.cell hres 6 rfl
  have r7 := Blk.cell hres 7 rfl
  have hK := hR2
  unfold Blk at hK
  go_wp2_with (refine wpList_store_row rfl 69 (.tmp 2) (.tmp 12) rfl w.heap.size #[.int .u8 last, .int .u8 127, .bool bib, .bool true, .int .u8 0, .int .u8 0, .bool false, .slice none 0 0] rfl rfl 69 _ hK (by kernel_rfl) rfl (by simp [Value.oneCell']) ?_)
  refine bodyPost_ret (v := .agg #[.int .u8 last, .int .u8 127, .bool bib, .bool true, .int .u8 0, .int .u8 0, .bool false, .slice none 0 0]) (by simp [results, Try.results39, go_sem, r0, r1, r2, r3, r4, r5, r6, r7]) rfl ?_
  exact ⟨rfl, below_row hb2 (Nat.le_refl _) _⟩
theorem taken_is (b h : Nat) (bib : Bool) (last : Int) (asked : Bool) (i0 i1 : Bool) (w : World) (hB : BS w b h true bib last asked (-1) false false i0 i1) : Calls Try.prog 40 #[.pointer (some ⟨b, 0, none⟩)] w fun e w' => e = .returned (.int .u8 last) ∧ w = w' := by
  have c3 := Blk.cell hB 3 rfl
  go_enter Try.func40, Try.ntmps40
  go_wp2
  go_ret
  exact ⟨rfl, rfl⟩
end Go.Proofs.Ytadheikcgdhcdaa
