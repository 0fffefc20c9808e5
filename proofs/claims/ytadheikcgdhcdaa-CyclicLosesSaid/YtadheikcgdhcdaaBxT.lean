/-
  The basic way in any state: a unit's message.
-/
import Derived.Test.YtadheikcgdhcdaaBxR
import Derived.Test.YtadheikcgdhcdaaSm
namespace Go.Proofs.Ytadheikcgdhcdaa
open Go.RowKit
set_option linter.unusedVariables false
set_option linter.unusedSimpArgs false

/-- A basic way behind one of its own block's changes. -/
theorem BX.own {w w' : World} {b h : Nat} {m o : Int} {sv nv : Value} {s s' : BSt} (k : BX w b h m o sv nv s) (hF : Fr (· = b) w w') (hB : BS w' b h s'.fib s'.bib s'.last s'.asked s'.ag s'.q0 s'.q1 s'.i0 s'.i1)
    (hf : s'.f = s.f) (hss : s'.ss = s.ss) (hns : s'.ns = s.ns) (hag : s'.ag = s.ag) (hl : 0 ≤ s'.last ∧ s'.last ≤ 127) : BX w' b h m o sv nv s' := by
  refine ⟨hB, ?_, ?_, hl⟩
  · rw [hf, hss, hns]; exact k.hx.bfr k.bs hF
  · rw [hag, hss]; exact k.inv

/-- One whose indicator isn't that which is sent, while one is asked for. -/
theorem BX.take_odd {w : World} {b h : Nat} {m o : Int} {sv nv : Value} {s : BSt} (k : BX w b h m o sv nv s) (bsn fsn kind st : Int) (bib fib x : Bool) (iv : Value) (hiv : iv.oneCell' = true) (hf : fib = !s.bib) (hask : s.asked = true) :
    Calls Try.prog 38 #[.pointer (some ⟨b, 0, none⟩), .agg #[.int .u8 bsn, .int .u8 fsn, .bool bib, .bool fib, .int .u8 kind, .int .u8 st, .bool x, iv]] w fun e w' =>
      e = .returned (.tuple #[.slice none 0 0, .bool false, .int .i64 0]) ∧ BX w' b h m o sv nv { s with i0 := s.i1, i1 := false } ∧ BF w w' b h sv nv sv nv := by
  have hU := Blk.new w [.int .u8 bsn, .int .u8 fsn, .bool bib, .bool fib, .int .u8 kind, .int .u8 st, .bool x, iv] 69
  have hB1 : Below w.heap.size w (w.alloc (.cells #[.int .u8 bsn, .int .u8 fsn, .bool bib, .bool fib, .int .u8 kind, .int .u8 st, .bool x, iv] 69)) := (Below.refl _ _).alloc (Nat.le_refl _) _
  have k1 := k.below hB1
  obtain ⟨W, hW⟩ : ∃ W, w.alloc (.cells #[.int .u8 bsn, .int .u8 fsn, .bool bib, .bool fib, .int .u8 kind, .int .u8 st, .bool x, iv] 69) = W := ⟨_, rfl⟩
  replace hU : Blk W w.heap.size [.int .u8 bsn, .int .u8 fsn, .bool bib, .bool fib, .int .u8 kind, .int .u8 st, .bool x, iv] 69 := by rw [← hW]; exact hU
  rw [hW] at hB1 k1
  have u3 := hU.cell 3 rfl
  have k2 := Blk.cell k1.bs 2 rfl
  have e1 : s.bib = !fib := by rw [hf, Bool.not_not]
  rw [e1] at k2
  have K1 := Lib.hid k1
  have HB := Lib.hid hB1
  clear k1 hB1 k hU e1 hf
  replace hW := Lib.hid hW
  cases fib
  all_goals
    go_enter Try.func38, Try.ntmps38
    go_upto_region 3 with fail
    rw [hW.out]
    go_quiet (fail)
    have k2' := K1.out.drewN nq
    have hF2 : BF w (W.drewN nq) b h sv nv sv nv := (BF.of_below sv nv HB.out).drewN nq
    clear k2 u3 K1 HB
    replace hW := Lib.hid hW.out.symm
    generalize W.drewN nq = W2 at *
    go_upto_region 4 with fail
    have y4 := Blk.cell k2'.bs 4 rfl
    rw [hask] at y4
    have hs := see8 b h s.fib s.bib s.last s.asked s.ag s.q0 s.q1 s.i0 s.i1 false (W2.drewN 1) (Blk.drewN k2'.bs 1)
    have K2 := Lib.hid (k2'.drewN 1)
    have HF2 := Lib.hid (hF2.drewN 1)
    clear k2' hF2
    rw [Bool.false_and] at hs
    go_region_with (go_at_call 26; refine hs.mono ?_; rintro e w1 ⟨rfl, hBs, hFs⟩)
    all_goals go_wp2
    all_goals refine bodyPost_ret (v := .tuple #[.slice none 0 0, .bool false, .int .i64 0]) (by simp [results, Try.results38, go_sem]) rfl ?_
    all_goals exact ⟨rfl, K2.out.own hFs hBs rfl rfl rfl rfl K2.out.lst, HF2.out.trans (.of_b hFs)⟩

set_option maxRecDepth 100000 in
set_option maxHeartbeats 1000000 in
theorem BX.take_gap {w : World} {b h : Nat} {m o : Int} {sv nv : Value} {s : BSt} (k : BX w b h m o sv nv s) (bsn fsn kind st : Int) (bib x : Bool) (iv : Value) (hiv : iv.oneCell' = true) (hn1 : fsn ≠ s.last) (hn2 : kind ≠ 2 ∨ fsn ≠ (s.last + 1) % 128) :
    Calls Try.prog 38 #[.pointer (some ⟨b, 0, none⟩), .agg #[.int .u8 bsn, .int .u8 fsn, .bool bib, .bool s.bib, .int .u8 kind, .int .u8 st, .bool x, iv]] w fun e w' =>
      e = .returned (.tuple #[.slice none 0 0, .bool false, .int .i64 0]) ∧ BX w' b h m o sv nv { s with i0 := s.i1, i1 := false, bib := !s.bib, asked := true } ∧ BF w w' b h sv nv sv nv := by
  obtain ⟨fb, hfb⟩ : ∃ fb, s.bib = fb := ⟨_, rfl⟩
  have hU := Blk.new w [.int .u8 bsn, .int .u8 fsn, .bool bib, .bool fb, .int .u8 kind, .int .u8 st, .bool x, iv] 69
  have hB1 : Below w.heap.size w (w.alloc (.cells #[.int .u8 bsn, .int .u8 fsn, .bool bib, .bool fb, .int .u8 kind, .int .u8 st, .bool x, iv] 69)) := (Below.refl _ _).alloc (Nat.le_refl _) _
  have k1 := k.below hB1
  obtain ⟨W, hW⟩ : ∃ W, w.alloc (.cells #[.int .u8 bsn, .int .u8 fsn, .bool bib, .bool fb, .int .u8 kind, .int .u8 st, .bool x, iv] 69) = W := ⟨_, rfl⟩
  replace hU : Blk W w.heap.size [.int .u8 bsn, .int .u8 fsn, .bool bib, .bool fb, .int .u8 kind, .int .u8 st, .bool x, iv] 69 := by rw [← hW]; exact hU
  rw [hW] at hB1 k1
  have u3 := hU.cell 3 rfl
  have k2 := Blk.cell k1.bs 2 rfl
  rw [hfb] at k2
  have K1 := Lib.hid k1
  have HB := Lib.hid hB1
  have HU := Lib.hid hU
  have hlst := k.lst
  have K0 := Lib.hid k
  have e1 : (fsn == s.last) = false := by simpa using hn1
  have e2 : (kind == 2) = false ∨ ((kind == 2) = true ∧ (fsn == (s.last + 1) % 128) = false) := by
    by_cases h : kind = 2
    · right
      refine ⟨by simpa using h, ?_⟩
      rcases hn2 with h2 | h2
      · exact absurd h h2
      · simpa using h2
    · left; simpa using h
  clear hn1 hn2
  clear k1 hB1 k hU
  rw [hfb]
  replace hfb := Lib.hid hfb
  replace hW := Lib.hid hW
  cases fb
  all_goals
    go_enter Try.func38, Try.ntmps38
    go_upto_region 3 with fail
    rw [hW.out]
    go_quiet (fail)
    have k2' := K1.out.drewN nq
    have hs := see8 b h s.fib s.bib s.last s.asked s.ag s.q0 s.q1 s.i0 s.i1 false (W.drewN nq) k2'.bs
    have HU2 := Lib.hid (Blk.drewN HU.out nq)
    have hF2 : BF w (W.drewN nq) b h sv nv sv nv := (BF.of_below sv nv HB.out).drewN nq
    have K2 := Lib.hid k2'
    have HF2 := Lib.hid hF2
    clear k2 u3 k2' hF2 HU K1 HB
    go_wp2_with fail
    refine hs.mono ?_
    rintro e w1 ⟨rfl, hBs, hFs⟩
    have kb : BX w1 b h m o sv nv { s with i0 := s.i1, i1 := false } := K2.out.own hFs hBs rfl rfl rfl rfl K2.out.lst
    have hF3 : BF w w1 b h sv nv sv nv := HF2.out.trans (.of_b hFs)
    have hU3 := HU2.out.fr hFs (fun e => (HU2.out.apart K2.out.bs (by decide)) e)
    have y2 := Blk.cell hBs 2 rfl
    have y3 := Blk.cell hBs 3 rfl
    have y4 := Blk.cell hBs 4 rfl
    have f2 := Blk.frozen hBs 2
    have f3 := Blk.frozen hBs 3
    have f4 := Blk.frozen hBs 4
    have v1 := hU3.cell 1 rfl
    have v4 := hU3.cell 4 rfl
    have v7 := hU3.cell 7 rfl
    rw [hfb.out] at y2
    have KB := Lib.hid kb
    have HF3 := Lib.hid hF3
    have HU3 := Lib.hid hU3
    clear hs HU2 K2 HF2 kb hF3 hU3 hBs hFs
    go_wp2_with fail
    refine (next_is s.last w1).mono ?_
    rintro e w1x ⟨rfl, rfl⟩
    rcases e2 with e2 | ⟨e2, e3⟩
    all_goals
      go_upto_region 12 with fail
      go_quiet (fail)
      have kq := KB.out.drewN nq
      have y2' := Blk.cell kq.bs 2 rfl
      rw [hfb.out] at y2'
      go_wp2
      refine bodyPost_ret (v := .tuple #[.slice none 0 0, .bool false, .int .i64 0]) (by simp [results, Try.results38, go_sem]) rfl ?_
      have hF : Fr (· = b) (w1.drewN nq) (((w1.drewN nq).setCell ⟨b, 2, none⟩ (.bool (!s.bib))).setCell ⟨b, 4, none⟩ (.bool true)) := Fr.setCell (S := fun q => q = b) (p := ⟨b, 4, none⟩) (Fr.set1 (w1.drewN nq) ⟨b, 2, none⟩ _) (.inl rfl) _
      have hF4 : BF w (w1.drewN nq) b h sv nv sv nv := HF3.out.drewN nq
      have hres : BX (((w1.drewN nq).setCell ⟨b, 2, none⟩ (.bool (!s.bib))).setCell ⟨b, 4, none⟩ (.bool true)) b h m o sv nv { s with i0 := s.i1, i1 := false, bib := !s.bib, asked := true } := kq.own hF (Blk.set (Blk.set kq.bs 2 (.bool (!s.bib))) 4 (.bool true)) rfl rfl rfl rfl hlst
      have hF5 := hF4.trans (.of_b (sv := sv) (nv := nv) (h := h) hF)
      rw [hfb.out] at hres hF5
      exact ⟨rfl, hres, hF5⟩

set_option maxRecDepth 100000 in
set_option maxHeartbeats 1000000 in
theorem BX.take_same {w : World} {b h : Nat} {m o : Int} {sv nv : Value} {s : BSt} (k : BX w b h m o sv nv s) (bsn fsn kind st : Int) (bib x : Bool) (iv : Value) (hiv : iv.oneCell' = true) (hn1 : fsn = s.last) :
    Calls Try.prog 38 #[.pointer (some ⟨b, 0, none⟩), .agg #[.int .u8 bsn, .int .u8 fsn, .bool bib, .bool s.bib, .int .u8 kind, .int .u8 st, .bool x, iv]] w fun e w' =>
      e = .returned (.tuple #[.slice none 0 0, .bool false, .int .i64 0]) ∧ BX w' b h m o sv nv { s with i0 := s.i1, i1 := false, asked := false } ∧ BF w w' b h sv nv sv nv := by
  obtain ⟨fb, hfb⟩ : ∃ fb, s.bib = fb := ⟨_, rfl⟩
  have hU := Blk.new w [.int .u8 bsn, .int .u8 fsn, .bool bib, .bool fb, .int .u8 kind, .int .u8 st, .bool x, iv] 69
  have hB1 : Below w.heap.size w (w.alloc (.cells #[.int .u8 bsn, .int .u8 fsn, .bool bib, .bool fb, .int .u8 kind, .int .u8 st, .bool x, iv] 69)) := (Below.refl _ _).alloc (Nat.le_refl _) _
  have k1 := k.below hB1
  obtain ⟨W, hW⟩ : ∃ W, w.alloc (.cells #[.int .u8 bsn, .int .u8 fsn, .bool bib, .bool fb, .int .u8 kind, .int .u8 st, .bool x, iv] 69) = W := ⟨_, rfl⟩
  replace hU : Blk W w.heap.size [.int .u8 bsn, .int .u8 fsn, .bool bib, .bool fb, .int .u8 kind, .int .u8 st, .bool x, iv] 69 := by rw [← hW]; exact hU
  rw [hW] at hB1 k1
  have u3 := hU.cell 3 rfl
  have k2 := Blk.cell k1.bs 2 rfl
  rw [hfb] at k2
  have K1 := Lib.hid k1
  have HB := Lib.hid hB1
  have HU := Lib.hid hU
  have hlst := k.lst
  have K0 := Lib.hid k
  have e1 : (fsn == s.last) = true := by simpa using hn1
  have e3 : (fsn == (s.last + 1) % 128) = false := by simp; omega
  have e2 : (kind == 2) = false ∨ (kind == 2) = true := by cases h : (kind == 2) <;> simp
  clear hn1
  clear k1 hB1 k hU
  rw [hfb]
  replace hfb := Lib.hid hfb
  replace hW := Lib.hid hW
  cases fb
  all_goals
    go_enter Try.func38, Try.ntmps38
    go_upto_region 3 with fail
    rw [hW.out]
    go_quiet (fail)
    have k2' := K1.out.drewN nq
    have hs := see8 b h s.fib s.bib s.last s.asked s.ag s.q0 s.q1 s.i0 s.i1 false (W.drewN nq) k2'.bs
    have HU2 := Lib.hid (Blk.drewN HU.out nq)
    have hF2 : BF w (W.drewN nq) b h sv nv sv nv := (BF.of_below sv nv HB.out).drewN nq
    have K2 := Lib.hid k2'
    have HF2 := Lib.hid hF2
    clear k2 u3 k2' hF2 HU K1 HB
    go_wp2_with fail
    refine hs.mono ?_
    rintro e w1 ⟨rfl, hBs, hFs⟩
    have kb : BX w1 b h m o sv nv { s with i0 := s.i1, i1 := false } := K2.out.own hFs hBs rfl rfl rfl rfl K2.out.lst
    have hF3 : BF w w1 b h sv nv sv nv := HF2.out.trans (.of_b hFs)
    have hU3 := HU2.out.fr hFs (fun e => (HU2.out.apart K2.out.bs (by decide)) e)
    have y2 := Blk.cell hBs 2 rfl
    have y3 := Blk.cell hBs 3 rfl
    have y4 := Blk.cell hBs 4 rfl
    have f2 := Blk.frozen hBs 2
    have f3 := Blk.frozen hBs 3
    have f4 := Blk.frozen hBs 4
    have v1 := hU3.cell 1 rfl
    have v4 := hU3.cell 4 rfl
    have v7 := hU3.cell 7 rfl
    rw [hfb.out] at y2
    have KB := Lib.hid kb
    have HF3 := Lib.hid hF3
    have HU3 := Lib.hid hU3
    clear hs HU2 K2 HF2 kb hF3 hU3 hBs hFs
    go_wp2_with fail
    refine (next_is s.last w1).mono ?_
    rintro e w1x ⟨rfl, rfl⟩
    rcases e2 with e2 | e2
    all_goals
      go_upto_region 12 with fail
      go_quiet (fail)
      have kq := KB.out.drewN nq
      go_wp2
      refine bodyPost_ret (v := .tuple #[.slice none 0 0, .bool false, .int .i64 0]) (by simp [results, Try.results38, go_sem]) rfl ?_
      have hF : Fr (· = b) (w1.drewN nq) ((w1.drewN nq).setCell ⟨b, 4, none⟩ (.bool false)) := Fr.set1 (w1.drewN nq) ⟨b, 4, none⟩ _
      have hF4 : BF w (w1.drewN nq) b h sv nv sv nv := HF3.out.drewN nq
      have hres : BX ((w1.drewN nq).setCell ⟨b, 4, none⟩ (.bool false)) b h m o sv nv { s with i0 := s.i1, i1 := false, asked := false } := kq.own hF (Blk.set kq.bs 4 (.bool false)) rfl rfl rfl rfl hlst
      rw [hfb.out] at hres
      exact ⟨rfl, hres, hF4.trans (.of_b hF)⟩

set_option maxRecDepth 100000 in
set_option maxHeartbeats 1000000 in
theorem BX.take_msg {w : World} {b h : Nat} {m o : Int} {sv nv : Value} {s : BSt} (k : BX w b h m o sv nv s) (bsn fsn kind st : Int) (bib x : Bool) (xs : List Int) (g c : Nat) (cs : List Value) (hG : Blk w g cs 5) (hc : ∀ (j : Nat) (u : Value), (xs.map (Value.int .u8))[j]? = some u → cs[j]? = some u) (hxl : 1 ≤ xs.length ∧ xs.length ≤ 400) (hn1 : fsn = (s.last + 1) % 128) (hkd : kind = 2) :
    Calls Try.prog 38 #[.pointer (some ⟨b, 0, none⟩), .agg #[.int .u8 bsn, .int .u8 fsn, .bool bib, .bool s.bib, .int .u8 kind, .int .u8 st, .bool x, .slice (some ⟨g, 0, none⟩) xs.length c]] w fun e w' =>
      ∃ (g8 c8 : Nat) (cs8 : List Value), e = .returned (.tuple #[.slice (some ⟨g8, 0, none⟩) xs.length c8, .bool true, .int .i64 0]) ∧ BX w' b h m o sv nv { s with i0 := s.i1, i1 := false, asked := false, last := fsn } ∧ BF w w' b h sv nv sv nv ∧ Blk w' g8 cs8 5 ∧ (∀ (j : Nat) (u : Value), (xs.map (Value.int .u8))[j]? = some u → cs8[j]? = some u) := by
  obtain ⟨fb, hfb⟩ : ∃ fb, s.bib = fb := ⟨_, rfl⟩
  have hU := Blk.new w [.int .u8 bsn, .int .u8 fsn, .bool bib, .bool fb, .int .u8 kind, .int .u8 st, .bool x, .slice (some ⟨g, 0, none⟩) xs.length c] 69
  have hB1 : Below w.heap.size w (w.alloc (.cells #[.int .u8 bsn, .int .u8 fsn, .bool bib, .bool fb, .int .u8 kind, .int .u8 st, .bool x, .slice (some ⟨g, 0, none⟩) xs.length c] 69)) := (Below.refl _ _).alloc (Nat.le_refl _) _
  have k1 := k.below hB1
  obtain ⟨W, hW⟩ : ∃ W, w.alloc (.cells #[.int .u8 bsn, .int .u8 fsn, .bool bib, .bool fb, .int .u8 kind, .int .u8 st, .bool x, .slice (some ⟨g, 0, none⟩) xs.length c] 69) = W := ⟨_, rfl⟩
  replace hU : Blk W w.heap.size [.int .u8 bsn, .int .u8 fsn, .bool bib, .bool fb, .int .u8 kind, .int .u8 st, .bool x, .slice (some ⟨g, 0, none⟩) xs.length c] 69 := by rw [← hW]; exact hU
  rw [hW] at hB1 k1
  have u3 := hU.cell 3 rfl
  have k2 := Blk.cell k1.bs 2 rfl
  rw [hfb] at k2
  have K1 := Lib.hid k1
  have HB := Lib.hid hB1
  have HU := Lib.hid hU
  have hlst := k.lst
  have K0 := Lib.hid k
  have e3 : (fsn == (s.last + 1) % 128) = true := by simpa using hn1
  have e2 : (kind == 2) = true := by simpa using hkd
  have hl2 : 0 ≤ fsn ∧ fsn ≤ 127 := by omega
  have HG := Lib.hid hG
  have HC := Lib.hid hc
  have HN1 := Lib.hid hn1
  clear hn1 hkd hG hc
  clear k1 hB1 k hU
  rw [hfb]
  replace hfb := Lib.hid hfb
  replace hW := Lib.hid hW
  cases fb
  all_goals
    go_enter Try.func38, Try.ntmps38
    go_upto_region 3 with fail
    rw [hW.out]
    go_quiet (fail)
    have k2' := K1.out.drewN nq
    have hs := see8 b h s.fib s.bib s.last s.asked s.ag s.q0 s.q1 s.i0 s.i1 false (W.drewN nq) k2'.bs
    have HU2 := Lib.hid (Blk.drewN HU.out nq)
    have hF2 : BF w (W.drewN nq) b h sv nv sv nv := (BF.of_below sv nv HB.out).drewN nq
    have K2 := Lib.hid k2'
    have HF2 := Lib.hid hF2
    clear k2 u3 k2' hF2 HU K1 HB
    go_wp2_with fail
    refine hs.mono ?_
    rintro e w1 ⟨rfl, hBs, hFs⟩
    have kb : BX w1 b h m o sv nv { s with i0 := s.i1, i1 := false } := K2.out.own hFs hBs rfl rfl rfl rfl K2.out.lst
    have hF3 : BF w w1 b h sv nv sv nv := HF2.out.trans (.of_b hFs)
    have hU3 := HU2.out.fr hFs (fun e => (HU2.out.apart K2.out.bs (by decide)) e)
    have y2 := Blk.cell hBs 2 rfl
    have y3 := Blk.cell hBs 3 rfl
    have y4 := Blk.cell hBs 4 rfl
    have f2 := Blk.frozen hBs 2
    have f3 := Blk.frozen hBs 3
    have f4 := Blk.frozen hBs 4
    have v1 := hU3.cell 1 rfl
    have v4 := hU3.cell 4 rfl
    have v7 := hU3.cell 7 rfl
    rw [hfb.out] at y2
    have KB := Lib.hid kb
    have HF3 := Lib.hid hF3
    have HU3 := Lib.hid hU3
    clear hs HU2 K2 HF2 kb hF3 hU3 hBs hFs
    go_wp2_with fail
    refine (next_is s.last w1).mono ?_
    rw [← HN1.out]
    rintro e w1x ⟨rfl, rfl⟩
    have kq := KB.out
    have hF : Fr (· = b) w1 ((w1.setCell ⟨b, 3, none⟩ (.int .u8 fsn)).setCell ⟨b, 4, none⟩ (.bool false)) := Fr.setCell (S := fun q => q = b) (p := ⟨b, 4, none⟩) (Fr.set1 w1 ⟨b, 3, none⟩ _) (.inl rfl) _
    have hres : BX ((w1.setCell ⟨b, 3, none⟩ (.int .u8 fsn)).setCell ⟨b, 4, none⟩ (.bool false)) b h m o sv nv { s with i0 := s.i1, i1 := false, asked := false, last := fsn } := kq.own hF (Blk.set (Blk.set kq.bs 3 (.int .u8 fsn)) 4 (.bool false)) rfl rfl rfl rfl hl2
    rw [hfb.out] at hres
    have hF4 : BF w ((w1.setCell ⟨b, 3, none⟩ (.int .u8 fsn)).setCell ⟨b, 4, none⟩ (.bool false)) b h sv nv sv nv := HF3.out.trans (.of_b hF)
    have hG1 := K0.out.keep hF4 HG.out (by decide) (by decide) (by decide)
    have hcl := clone_ad ⟨g, 0, none⟩ xs.length c (xs.map (Value.int .u8)) _ (fun j u hj => by rw [hadd]; exact hG1.cell j (HC.out j u hj)) (by rw [List.length_map]) (by omega) (by omega) (fun u hu => by obtain ⟨n, -, rfl⟩ := List.mem_map.1 hu; rfl)
    have hU5 := HU3.out.fr hF (fun e => (HU3.out.apart kq.bs (by decide)) e)
    have v7' := hU5.cell 7 rfl
    have KR := Lib.hid hres
    have KF := Lib.hid hF4
    clear hres hF4 hG1 hU5 hF kq
    go_wp2_with fail
    refine hcl.mono ?_
    rintro e w8 ⟨g8, c8, cs8, rfl, hb8, hg8, hB8, hc8⟩
    go_wp2
    refine bodyPost_ret (v := .tuple #[.slice (some ⟨g8, 0, none⟩) xs.length c8, .bool true, .int .i64 0]) (by simp [results, Try.results38, go_sem]) rfl ?_
    exact ⟨g8, c8, cs8, rfl, KR.out.below hb8, KF.out.below hb8, hB8, hc8⟩
end Go.Proofs.Ytadheikcgdhcdaa
