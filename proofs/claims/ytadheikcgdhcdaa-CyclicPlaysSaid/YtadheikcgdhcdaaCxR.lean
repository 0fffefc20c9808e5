/-
  The cyclic way in any state: a unit's answer.
-/
import Derived.Test.YtadheikcgdhcdaaCxA
namespace Go.Proofs.Ytadheikcgdhcdaa
open Go.RowKit
set_option linter.unusedVariables false
set_option linter.unusedSimpArgs false

theorem csee6 (b h : Nat) (n1 n2 last pl : Int) (force q0 q1 odd : Bool) (w : World) (hB : CS w b h n1 n2 last pl force q0 q1) :
    Calls Try.prog 26 #[.pointer (some ⟨b, 6, none⟩), .bool odd] w fun e w' => e = .returned (.bool (odd && (q0 || q1))) ∧ CS w' b h n1 n2 last pl force q1 odd ∧ Fr (· = b) w w' := by
  have c0 := Blk.cell hB 6 rfl
  have c1 := Blk.cell hB 7 rfl
  have f0 := Blk.frozen hB 6
  have f1 := Blk.frozen hB 7
  have hb1 : CS ((w.drew.setCell ⟨b, 6, none⟩ (.bool q1)).setCell ⟨b, 7, none⟩ (.bool odd)) b h n1 n2 last pl force q1 odd := Blk.set (Blk.set (Blk.drew hB) 6 (.bool q1)) 7 (.bool odd)
  have hb2 : CS ((w.drew.setCell ⟨b, 7, none⟩ (.bool odd)).setCell ⟨b, 6, none⟩ (.bool q1)) b h n1 n2 last pl force q1 odd := Blk.set (Blk.set (Blk.drew hB) 7 (.bool odd)) 6 (.bool q1)
  have hf1 : Fr (· = b) w ((w.drew.setCell ⟨b, 6, none⟩ (.bool q1)).setCell ⟨b, 7, none⟩ (.bool odd)) := Fr.setCell (S := (· = b)) (p := ⟨b, 7, none⟩) (Fr.setCell (S := (· = b)) (p := ⟨b, 6, none⟩) (Fr.refl _ w).drew (.inl rfl) _) (.inl rfl) _
  have hf2 : Fr (· = b) w ((w.drew.setCell ⟨b, 7, none⟩ (.bool odd)).setCell ⟨b, 6, none⟩ (.bool q1)) := Fr.setCell (S := (· = b)) (p := ⟨b, 6, none⟩) (Fr.setCell (S := (· = b)) (p := ⟨b, 7, none⟩) (Fr.refl _ w).drew (.inl rfl) _) (.inl rfl) _
  have B1 := Lib.hid hb1
  have B2 := Lib.hid hb2
  have F1 := Lib.hid hf1
  have F2 := Lib.hid hf2
  clear hb1 hb2 hf1 hf2 hB
  cases odd <;> cases q0 <;> cases q1
  all_goals
    go_enter Try.func26, Try.ntmps26
    go_upto_region 2 with fail
    go_region
    all_goals go_wp2
    all_goals go_ret
    all_goals first | exact ⟨rfl, B1.out, F1.out⟩ | exact ⟨rfl, B2.out, F2.out⟩

theorem CX.answer_no {w : World} {b h : Nat} {m o : Int} {sv nv : Value} {s : CSt} (k : CX w b h m o sv nv s) (bsn fsn kind st : Int) (bib fib x : Bool) (iv : Value) (hiv : iv.oneCell' = true) (hn : 0 ≤ bsn ∧ bsn ≤ 255) (hk : knowsB s.f s.ss.length bsn = false) :
    Calls Try.prog 50 #[.pointer (some ⟨b, 0, none⟩), .agg #[.int .u8 bsn, .int .u8 fsn, .bool bib, .bool fib, .int .u8 kind, .int .u8 st, .bool x, iv]] w fun e w' => e = .returned (.tuple #[.int .i64 0, .int .i64 (if (s.q0 || s.q1) = true then 10 else 0)]) ∧ CX w' b h m o sv nv { s with q0 := s.q1, q1 := true } ∧ BF w w' b h sv nv sv nv := by
  have hU := Blk.new w [.int .u8 bsn, .int .u8 fsn, .bool bib, .bool fib, .int .u8 kind, .int .u8 st, .bool x, iv] 69
  have hB1 : Below w.heap.size w (w.alloc (.cells [.int .u8 bsn, .int .u8 fsn, .bool bib, .bool fib, .int .u8 kind, .int .u8 st, .bool x, iv].toArray 69)) := (Below.refl _ _).alloc (Nat.le_refl _) _
  have k1 := k.below hB1
  have u0 := hU.cell 0 rfl
  have y0 := Blk.cell k1.cs 0 rfl
  have hkn := fun n => (k1.hx.drewN n).knows bsn hn
  rw [hk] at hkn
  have K1 := Lib.hid k1
  have HB := Lib.hid hB1
  clear k1 hB1 k hU
  obtain ⟨C, hC⟩ : ∃ C : Int, (if (s.q0 || s.q1) = true then (10 : Int) else 0) = C := ⟨_, rfl⟩
  rw [hC]
  have hqq := Lib.hid hC
  clear hC
  go_enter Try.func50, Try.ntmps50
  go_upto_region 3 with fail
  generalize w.alloc (.cells [.int .u8 bsn, .int .u8 fsn, .bool bib, .bool fib, .int .u8 kind, .int .u8 st, .bool x, iv].toArray 69) = W at *
  go_quiet ((go_at_call 72; exact Calls.quiet_of (hkn _)))
  go_wp2_with fail
  have k2 := K1.out.drewN nq
  refine (csee6 b h _ _ _ _ _ _ _ true _ k2.cs).mono ?_
  rintro e w1 ⟨rfl, hbs, hF⟩
  have hbx : CX w1 b h m o sv nv { s with q0 := s.q1, q1 := true } := ⟨hbs, k2.hx.bfr120 k2.cs hF, k2.inv, k2.lst⟩
  have hBF : BF w w1 b h sv nv sv nv := ((BF.of_below sv nv HB.out).drewN nq).trans (.of_b hF)
  by_cases hq : (s.q0 || s.q1) = true
  · have hC : C = 10 := by rw [← hqq.out, if_pos hq]
    subst hC
    go_wp2
    refine bodyPost_ret (v := .tuple #[.int .i64 0, .int .i64 10]) (by simp [results, Try.results50, go_sem]) rfl ?_
    exact ⟨rfl, hbx, hBF⟩
  · have hC : C = 0 := by rw [← hqq.out, if_neg hq]
    subst hC
    have hq2 : (s.q0 || s.q1) = false := by simpa using hq
    go_wp2
    refine bodyPost_ret (v := .tuple #[.int .i64 0, .int .i64 0]) (by simp [results, Try.results50, go_sem]) rfl ?_
    exact ⟨rfl, hbx, hBF⟩

/-- A cyclic way behind a unit's answer. -/
def ansC (s : CSt) (bsn : Int) (i : Nat) : CSt := { s with q0 := s.q1, q1 := false, f := (bsn + 1) % 128, ss := s.ss.drop i, pl := s.pl - i }
set_option maxHeartbeats 2000000 in
set_option maxRecDepth 100000 in
theorem CX.answer_yes {w : World} {b h : Nat} {m o : Int} {sv nv : Value} {s : CSt} (k : CX w b h m o sv nv s) (bsn fsn kind st : Int) (bib fib x : Bool) (iv : Value) (hiv : iv.oneCell' = true) (hn : 0 ≤ bsn ∧ bsn ≤ 255) (hk : knowsB s.f s.ss.length bsn = true) (i : Nat) (hi : (bsn - s.f + 1) % 128 = i) :
    Calls Try.prog 50 #[.pointer (some ⟨b, 0, none⟩), .agg #[.int .u8 bsn, .int .u8 fsn, .bool bib, .bool fib, .int .u8 kind, .int .u8 st, .bool x, iv]] w fun e w' => e = .returned (.tuple #[.int .i64 i, .int .i64 0]) ∧ ∃ sv', CX w' b h m o sv' nv (ansC s bsn i) ∧ BF w w' b h sv nv sv' nv := by
  have hU := Blk.new w [.int .u8 bsn, .int .u8 fsn, .bool bib, .bool fib, .int .u8 kind, .int .u8 st, .bool x, iv] 69
  have hB1 : Below w.heap.size w (w.alloc (.cells [.int .u8 bsn, .int .u8 fsn, .bool bib, .bool fib, .int .u8 kind, .int .u8 st, .bool x, iv].toArray 69)) := (Below.refl _ _).alloc (Nat.le_refl _) _
  have k1 := k.below hB1
  have u0 := hU.cell 0 rfl
  have y0 := Blk.cell k1.cs 0 rfl
  have hkn := fun n => (k1.hx.drewN n).knows bsn hn
  rw [hk] at hkn
  have K1 := Lib.hid k1
  have HB := Lib.hid hB1
  have HU := Lib.hid hU
  have HK := Lib.hid hk
  have HI := Lib.hid hi
  clear k1 hB1 k hU hk hi
  go_enter Try.func50, Try.ntmps50
  go_upto_region 3 with fail
  generalize w.alloc (.cells [.int .u8 bsn, .int .u8 fsn, .bool bib, .bool fib, .int .u8 kind, .int .u8 st, .bool x, iv].toArray 69) = W at *
  go_quiet ((go_at_call 72; exact Calls.quiet_of (hkn _)))
  go_wp2_with fail
  have k2 := K1.out.drewN nq
  refine (csee6 b h _ _ _ _ _ _ _ false _ k2.cs).mono ?_
  rintro e w1 ⟨rfl, hbs, hF⟩
  have hbx : CX w1 b h m o sv nv { s with q0 := s.q1, q1 := false } := ⟨hbs, k2.hx.bfr120 k2.cs hF, k2.inv, k2.lst⟩
  have hBF : BF w w1 b h sv nv sv nv := ((BF.of_below sv nv HB.out).drewN nq).trans (.of_b hF)
  have hU1 := (Blk.drewN HU.out nq).fr hF (fun e => (Blk.apart HU.out K1.out.cs (by decide)) e)
  have hfree := (hbx.hx.drewN 1).free_yes bsn hn HK.out i HI.out
  have KX := Lib.hid hbx
  have KF := Lib.hid hBF
  have u0' := Blk.cell hU1 0 rfl
  have y0' := Blk.cell hbs 0 rfl
  have KU := Lib.hid hU1
  have hbsX := Lib.hid hbs
  clear k2 hbx hBF hU1 hF hbs K1 HU HB hkn u0 y0
  go_upto_region 8 with fail
  go_cut [7, 8] (fun n e wx => n = .int .i64 i ∧ ∃ sv', HX wx h m o ((bsn + 1) % 128) sv' nv (s.ss.drop i) s.ns ∧ HF w1 wx h sv nv sv' nv)
  case first =>
    go_region_with (go_at_call 23; refine hfree.mono ?_; rintro e w2 ⟨rfl, sv', hx2, hF2⟩; have hF3 : HF w1 w2 h sv nv sv' nv := ⟨((Fr.refl _ w1).drewN 1).then_ hF2.fr, hF2.own⟩; clear hF2)
    all_goals go_wp2
    all_goals go_meet
    all_goals exact ⟨rfl, sv', hx2, hF3⟩
  case rest =>
    obtain ⟨rfl, sv', hx2, hF2⟩ := hcut
    have hbs2 : CS wc b h s.n1 s.n2 s.last s.pl s.force s.q1 false := KX.out.far hF2
    have hBF2 : BF w wc b h sv nv sv' nv := KF.out.trans (.of_hf hF2)
    have hinv : s.pl ≤ s.ss.length := KX.out.inv
    have hlst : 0 ≤ s.last ∧ s.last ≤ 127 := KX.out.lst
    have hwin : s.ss.length ≤ 127 := KX.out.hx.win
    have hile : i ≤ 127 := by have := HI.out; omega
    clear hfree KX KF KU hbsX hF2 u0' y0' HK HI
    have HX2 := Lib.hid hx2
    have HF2 := Lib.hid hBF2
    have y4 := Blk.cell hbs2 4 rfl
    have f4 := Blk.frozen hbs2 4
    have S2 := Lib.hid hbs2
    clear hx2 hBF2 hbs2
    have hw1 : IntKind.i64.wrap ((s.pl : Int) - (i : Int)) = (s.pl : Int) - i := wrapH _ (by omega)
    by_cases hc : (i : Int) < (s.pl : Int)
    · have e1 : (0 : Int) < (s.pl : Int) - (i : Int) := by omega
      go_wp2
      all_goals refine bodyPost_ret (v := .tuple #[.int .i64 i, .int .i64 0]) (by simp [results, Try.results50, go_sem]) rfl ?_
      all_goals refine ⟨rfl, sv', ⟨?_, ?_, ?_, hlst⟩, ⟨HF2.out.fr.setCell (.inl (.inl rfl)) _, HF2.out.own⟩⟩
      all_goals first
        | exact HX2.out.bfr120 S2.out (Fr.set1 wc ⟨b, 4, none⟩ _)
        | (show s.pl - i ≤ (s.ss.drop i).length; rw [List.length_drop]; omega)
        | (have hS : CS (wc.setCell ⟨b, 4, none⟩ (.int .i64 ((s.pl : Int) - i))) b h s.n1 s.n2 s.last ((s.pl - i : Nat) : Int) s.force s.q1 false := by
             rw [show ((s.pl - i : Nat) : Int) = (s.pl : Int) - i from by omega]
             exact Blk.set S2.out 4 _
           exact hS)
        | omega
    · have e1 : ¬ ((0 : Int) < (s.pl : Int) - (i : Int)) := by omega
      go_wp2
      all_goals refine bodyPost_ret (v := .tuple #[.int .i64 i, .int .i64 0]) (by simp [results, Try.results50, go_sem]) rfl ?_
      all_goals refine ⟨rfl, sv', ⟨?_, ?_, ?_, hlst⟩, ⟨HF2.out.fr.setCell (.inl (.inl rfl)) _, HF2.out.own⟩⟩
      all_goals first
        | exact HX2.out.bfr120 S2.out (Fr.set1 wc ⟨b, 4, none⟩ _)
        | (show s.pl - i ≤ (s.ss.drop i).length; rw [List.length_drop]; omega)
        | (have hS : CS (wc.setCell ⟨b, 4, none⟩ (.int .i64 0)) b h s.n1 s.n2 s.last ((s.pl - i : Nat) : Int) s.force s.q1 false := by
             rw [show ((s.pl - i : Nat) : Int) = 0 from by omega]
             exact Blk.set S2.out 4 _
           exact hS)
        | omega
end Go.Proofs.Ytadheikcgdhcdaa
