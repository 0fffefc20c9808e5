/-
  The cyclic way in any state: a unit's message.
-/
import Derived.Test.YtadheikcgdhcdaaCxR
import Derived.Test.YtadheikcgdhcdaaSm
namespace Go.Proofs.Ytadheikcgdhcdaa
open Go.RowKit
set_option linter.unusedVariables false
set_option linter.unusedSimpArgs false

theorem CX.own {w w' : World} {b h : Nat} {m o : Int} {sv nv : Value} {s s' : CSt} (k : CX w b h m o sv nv s) (hF : Fr (· = b) w w') (hB : CS w' b h s'.n1 s'.n2 s'.last s'.pl s'.force s'.q0 s'.q1)
    (hf : s'.f = s.f) (hss : s'.ss = s.ss) (hns : s'.ns = s.ns) (hpl : s'.pl = s.pl) (hl : 0 ≤ s'.last ∧ s'.last ≤ 127) : CX w' b h m o sv nv s' := by
  refine ⟨hB, ?_, ?_, hl⟩
  · rw [hf, hss, hns]; exact k.hx.bfr120 k.cs hF
  · rw [hpl, hss]; exact k.inv
/-- It isn't the next one. -/
theorem CX.take_no {w : World} {b h : Nat} {m o : Int} {sv nv : Value} {s : CSt} (k : CX w b h m o sv nv s) (bsn fsn kind st : Int) (bib fib x : Bool) (iv : Value) (hiv : iv.oneCell' = true) (hn : kind ≠ 2 ∨ fsn ≠ (s.last + 1) % 128) :
    Calls Try.prog 52 #[.pointer (some ⟨b, 0, none⟩), .agg #[.int .u8 bsn, .int .u8 fsn, .bool bib, .bool fib, .int .u8 kind, .int .u8 st, .bool x, iv]] w fun e w' =>
      e = .returned (.tuple #[.slice none 0 0, .bool false, .int .i64 0]) ∧ Below w.heap.size w w' := by
  have hU := Blk.new w [.int .u8 bsn, .int .u8 fsn, .bool bib, .bool fib, .int .u8 kind, .int .u8 st, .bool x, iv] 69
  have hB1 : Below w.heap.size w (w.alloc (.cells #[.int .u8 bsn, .int .u8 fsn, .bool bib, .bool fib, .int .u8 kind, .int .u8 st, .bool x, iv] 69)) := (Below.refl _ _).alloc (Nat.le_refl _) _
  have k1 := k.below hB1
  obtain ⟨W, hW⟩ : ∃ W, w.alloc (.cells #[.int .u8 bsn, .int .u8 fsn, .bool bib, .bool fib, .int .u8 kind, .int .u8 st, .bool x, iv] 69) = W := ⟨_, rfl⟩
  replace hU : Blk W w.heap.size [.int .u8 bsn, .int .u8 fsn, .bool bib, .bool fib, .int .u8 kind, .int .u8 st, .bool x, iv] 69 := by rw [← hW]; exact hU
  rw [hW] at hB1 k1
  have u1 := hU.cell 1 rfl
  have u4 := hU.cell 4 rfl
  have y3 := Blk.cell k1.cs 3 rfl
  have e2 : (kind != 2) = true ∨ (kind = 2 ∧ (fsn != (s.last + 1) % 128) = true) := by
    by_cases h : kind = 2
    · right
      refine ⟨h, ?_⟩
      rcases hn with h2 | h2
      · exact absurd h h2
      · simpa using h2
    · left; simpa using h
  have HB := Lib.hid hB1
  replace hW := Lib.hid hW
  have hnx := fun n => (next_is s.last (W.drewN n)).mono (R' := fun e w' => e = .returned (.int .u8 ((s.last + 1) % 128)) ∧ w' = W.drewN n) fun e w' h => ⟨h.1, h.2.symm⟩
  clear hn k k1 hU hB1
  rcases e2 with e2 | ⟨rfl, e3⟩
  all_goals
    go_enter Try.func52, Try.ntmps52
    go_upto_region 3 with fail
    rw [hW.out]
    go_quiet (first | (go_at_call 76; exact Calls.quiet_of_same (hnx _)))
    go_wp2
    refine bodyPost_ret (v := .tuple #[.slice none 0 0, .bool false, .int .i64 0]) (by simp [results, Try.results52, go_sem]) rfl ?_
    exact ⟨rfl, below_drewN HB.out nq⟩
/-- It is the next one: it is taken. -/
theorem CX.take_msg {w : World} {b h : Nat} {m o : Int} {sv nv : Value} {s : CSt} (k : CX w b h m o sv nv s) (bsn fsn kind st : Int) (bib fib x : Bool) (xs : List Int) (g c : Nat) (cs : List Value) (hG : Blk w g cs 5) (hc : ∀ (j : Nat) (u : Value), (xs.map (Value.int .u8))[j]? = some u → cs[j]? = some u) (hxl : 1 ≤ xs.length ∧ xs.length ≤ 400) (hn1 : fsn = (s.last + 1) % 128) (hkd : kind = 2) :
    Calls Try.prog 52 #[.pointer (some ⟨b, 0, none⟩), .agg #[.int .u8 bsn, .int .u8 fsn, .bool bib, .bool fib, .int .u8 kind, .int .u8 st, .bool x, .slice (some ⟨g, 0, none⟩) xs.length c]] w fun e w' =>
      ∃ (g8 c8 : Nat) (cs8 : List Value), e = .returned (.tuple #[.slice (some ⟨g8, 0, none⟩) xs.length c8, .bool true, .int .i64 0]) ∧ CX w' b h m o sv nv { s with last := fsn } ∧ BF w w' b h sv nv sv nv ∧ Blk w' g8 cs8 5 ∧ (∀ (j : Nat) (u : Value), (xs.map (Value.int .u8))[j]? = some u → cs8[j]? = some u) := by
  have hU := Blk.new w [.int .u8 bsn, .int .u8 fsn, .bool bib, .bool fib, .int .u8 kind, .int .u8 st, .bool x, .slice (some ⟨g, 0, none⟩) xs.length c] 69
  have hB1 : Below w.heap.size w (w.alloc (.cells #[.int .u8 bsn, .int .u8 fsn, .bool bib, .bool fib, .int .u8 kind, .int .u8 st, .bool x, .slice (some ⟨g, 0, none⟩) xs.length c] 69)) := (Below.refl _ _).alloc (Nat.le_refl _) _
  have k1 := k.below hB1
  obtain ⟨W, hW⟩ : ∃ W, w.alloc (.cells #[.int .u8 bsn, .int .u8 fsn, .bool bib, .bool fib, .int .u8 kind, .int .u8 st, .bool x, .slice (some ⟨g, 0, none⟩) xs.length c] 69) = W := ⟨_, rfl⟩
  replace hU : Blk W w.heap.size [.int .u8 bsn, .int .u8 fsn, .bool bib, .bool fib, .int .u8 kind, .int .u8 st, .bool x, .slice (some ⟨g, 0, none⟩) xs.length c] 69 := by rw [← hW]; exact hU
  rw [hW] at hB1 k1
  have u1 := hU.cell 1 rfl
  have u4 := hU.cell 4 rfl
  have y3 := Blk.cell k1.cs 3 rfl
  subst hkd
  have hl2 : 0 ≤ fsn ∧ fsn ≤ 127 := by omega
  have HB := Lib.hid hB1
  have HU := Lib.hid hU
  have K1 := Lib.hid k1
  have K0 := Lib.hid k
  have HG := Lib.hid hG
  have HC := Lib.hid hc
  replace hW := Lib.hid hW
  have hnx := fun n => (next_is s.last (W.drewN n)).mono (R' := fun e w' => e = .returned (.int .u8 ((s.last + 1) % 128)) ∧ w' = W.drewN n) fun e w' h => ⟨h.1, h.2.symm⟩
  simp only [← hn1] at hnx
  have HN1 := Lib.hid hn1
  clear hn1 k k1 hU hB1 hG hc
  go_enter Try.func52, Try.ntmps52
  go_upto_region 3 with fail
  rw [hW.out]
  have e9 : (fsn != fsn) = false := by simp
  go_quiet (first | (go_at_call 76; exact Calls.quiet_of_same (hnx _)))
  have kq := K1.out.drewN nq
  have hF : Fr (· = b) (W.drewN nq) ((W.drewN nq).setCell ⟨b, 3, none⟩ (.int .u8 fsn)) := Fr.set1 (W.drewN nq) ⟨b, 3, none⟩ _
  have hres : CX ((W.drewN nq).setCell ⟨b, 3, none⟩ (.int .u8 fsn)) b h m o sv nv { s with last := fsn } := kq.own hF (Blk.set kq.cs 3 (.int .u8 fsn)) rfl rfl rfl rfl hl2
  have hF0 : BF w (W.drewN nq) b h sv nv sv nv := (BF.of_below sv nv HB.out).drewN nq
  have hF4 : BF w ((W.drewN nq).setCell ⟨b, 3, none⟩ (.int .u8 fsn)) b h sv nv sv nv := hF0.trans (.of_b hF)
  have hG1 := K0.out.keep hF4 HG.out (by decide) (by decide) (by decide)
  have hcl := clone_ad ⟨g, 0, none⟩ xs.length c (xs.map (Value.int .u8)) _ (fun j u hj => by rw [hadd]; exact hG1.cell j (HC.out j u hj)) (by rw [List.length_map]) (by omega) (by omega) (fun u hu => by obtain ⟨n, -, rfl⟩ := List.mem_map.1 hu; rfl)
  have hU5 := (Blk.drewN HU.out nq).fr hF (fun e => (Blk.apart HU.out K1.out.cs (by decide)) e)
  have v7' := hU5.cell 7 rfl
  have f3 := Blk.frozen kq.cs 3
  have y3' := Blk.cell kq.cs 3 rfl
  have KR := Lib.hid hres
  have KF := Lib.hid hF4
  clear hres hF4 hG1 hU5 hF kq hF0
  go_wp2_with fail
  refine hcl.mono ?_
  rintro e w8 ⟨g8, c8, cs8, rfl, hb8, hg8, hB8, hc8⟩
  go_wp2
  refine bodyPost_ret (v := .tuple #[.slice (some ⟨g8, 0, none⟩) xs.length c8, .bool true, .int .i64 0]) (by simp [results, Try.results52, go_sem]) rfl ?_
  exact ⟨g8, c8, cs8, rfl, KR.out.below hb8, KF.out.below hb8, hB8, hc8⟩
end Go.Proofs.Ytadheikcgdhcdaa
