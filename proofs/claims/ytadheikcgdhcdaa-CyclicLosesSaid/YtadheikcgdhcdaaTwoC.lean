/-
  Two cyclic ways in one world, each apart from the other.
-/
import Derived.Test.YtadheikcgdhcdaaKi
import Derived.Test.YtadheikcgdhcdaaCxT
namespace Go.Proofs.Ytadheikcgdhcdaa
open Go.RowKit
set_option linter.unusedVariables false
set_option linter.unusedSimpArgs false

/-- A way's blocks stay while another one acts. -/
theorem CX.other {w w' : World} {b h b2 h2 : Nat} {m o m2 o2 : Int} {sv nv sv2 nv2 sv' nv' : Value} {s s2 : CSt} (k : CX w b h m o sv nv s) (k2 : CX w b2 h2 m2 o2 sv2 nv2 s2) (hb : b ≠ b2) (hh : h ≠ h2) (hR : ∀ q, Ro sv nv q → ¬ Ro sv2 nv2 q) (hF : BF w w' b h sv nv sv' nv') : CX w' b2 h2 m2 o2 sv2 nv2 s2 := by
  refine ⟨Blk.fr k2.cs hF.fr ?_, k2.hx.fr hF.fr ?_ ?_ ?_, k2.inv, k2.lst⟩
  · rintro (e | e | e)
    · exact hb e.symm
    · exact Blk.apart k2.cs k.hx.blk (by decide) e
    · obtain ⟨ds, hd⟩ := k.hx.row33 e
      exact Blk.apart k2.cs hd (by decide) rfl
  · rintro (e | e | e)
    · exact Blk.apart k2.hx.blk k.cs (by decide) e
    · exact hh e.symm
    · obtain ⟨ds, hd⟩ := k.hx.row33 e
      exact Blk.apart k2.hx.blk hd (by decide) rfl
  · rintro q hq (e | e | e)
    · obtain ⟨ds, hd⟩ := k2.hx.row33 hq
      exact Blk.apart hd k.cs (by decide) e
    · obtain ⟨ds, hd⟩ := k2.hx.row33 hq
      exact Blk.apart hd k.hx.blk (by decide) e
    · exact hR q e hq
  · rintro g cs hG (e | e | e)
    · exact Blk.apart hG k.cs (by decide) e
    · exact Blk.apart hG k.hx.blk (by decide) e
    · obtain ⟨ds, hd⟩ := k.hx.row33 e
      exact Blk.apart hG hd (by decide) rfl
/-- Two ways of one's own behind W. -/
structure TC (W w : World) (b h b2 h2 : Nat) (m o : Int) (s s2 : CSt) : Prop where
  bel : Below W.heap.size W w
  beb : W.heap.size ≤ b
  beh : W.heap.size ≤ h
  beb2 : W.heap.size ≤ b2
  beh2 : W.heap.size ≤ h2
  bne : b ≠ b2
  hne : h ≠ h2
  ex : ∃ sv nv sv2 nv2, CX w b h m o sv nv s ∧ CX w b2 h2 m o sv2 nv2 s2 ∧ (∀ q, Ro sv nv q → W.heap.size ≤ q) ∧ (∀ q, Ro sv2 nv2 q → W.heap.size ≤ q) ∧ (∀ q, Ro sv nv q → ¬ Ro sv2 nv2 q)
theorem TC.symm {W w : World} {b h b2 h2 : Nat} {m o : Int} {s s2 : CSt} (k : TC W w b h b2 h2 m o s s2) : TC W w b2 h2 b h m o s2 s := by
  obtain ⟨sv, nv, sv2, nv2, k1, k2, r1, r2, r3⟩ := k.ex
  exact ⟨k.bel, k.beb2, k.beh2, k.beb, k.beh, k.bne.symm, k.hne.symm, sv2, nv2, sv, nv, k2, k1, r2, r1, fun q h1 h2 => r3 q h2 h1⟩
theorem TC.to {W w : World} {b h b2 h2 : Nat} {m o : Int} {s s2 t t2 : CSt} (k : TC W w b h b2 h2 m o s s2) (e1 : s = t) (e2 : s2 = t2) : TC W w b h b2 h2 m o t t2 := e1 ▸ e2 ▸ k
theorem TC.below {W w w' : World} {b h b2 h2 : Nat} {m o : Int} {s s2 : CSt} (k : TC W w b h b2 h2 m o s s2) (hb : Below w.heap.size w w') : TC W w' b h b2 h2 m o s s2 := by
  obtain ⟨sv, nv, sv2, nv2, k1, k2, r1, r2, r3⟩ := k.ex
  exact ⟨k.bel.trans (hb.mono k.bel.size), k.beb, k.beh, k.beb2, k.beh2, k.bne, k.hne, sv, nv, sv2, nv2, k1.below hb, k2.below hb, r1, r2, r3⟩
theorem TC.step {W w w' : World} {b h b2 h2 : Nat} {m o : Int} {s s2 s' : CSt} {sv nv sv2 nv2 sv' nv' : Value} (k : TC W w b h b2 h2 m o s s2) (k1 : CX w b h m o sv nv s) (k2 : CX w b2 h2 m o sv2 nv2 s2) (r1 : ∀ q, Ro sv nv q → W.heap.size ≤ q) (r2 : ∀ q, Ro sv2 nv2 q → W.heap.size ≤ q) (r3 : ∀ q, Ro sv nv q → ¬ Ro sv2 nv2 q) (kn : CX w' b h m o sv' nv' s') (hF : BF w w' b h sv nv sv' nv') : TC W w' b h b2 h2 m o s' s2 ∧ KpC w w' := by
  refine ⟨⟨k.bel.trans (hF.fr.below k.bel.size ?_), k.beb, k.beh, k.beb2, k.beh2, k.bne, k.hne, sv', nv', sv2, nv2, kn, k1.other k2 k.bne k.hne r3 hF, ?_, r2, ?_⟩, k1.kp hF⟩
  · have h1 := k.beb
    have h2 := k.beh
    rintro q (e | e | e)
    · omega
    · omega
    · exact r1 q e
  · intro q hq
    rcases hF.own q hq with e | e
    · exact r1 q e
    · exact Nat.le_trans k.bel.size e
  · intro q hq hq2
    rcases hF.own q hq with e | e
    · exact r3 q e hq2
    · obtain ⟨ds, hd⟩ := k2.hx.row33 hq2
      have := hd.lt
      omega
/-- Two ways, each made by New. -/
theorem TC.of {W w : World} {b h b2 h2 : Nat} {m o : Int} {s s2 : CSt} {sv nv sv2 nv2 : Value} (bel : Below W.heap.size W w) (h1 : W.heap.size ≤ b) (h3 : W.heap.size ≤ h) (h4 : W.heap.size ≤ b2) (h5 : W.heap.size ≤ h2) (hb : b ≠ b2) (hh : h ≠ h2) (k1 : CX w b h m o sv nv s) (k2 : CX w b2 h2 m o sv2 nv2 s2) (r1 : ∀ q, Ro sv nv q → W.heap.size ≤ q) (r2 : ∀ q, Ro sv2 nv2 q → W.heap.size ≤ q) (r3 : ∀ q, Ro sv nv q → ¬ Ro sv2 nv2 q) : TC W w b h b2 h2 m o s s2 :=
  ⟨bel, h1, h3, h4, h5, hb, hh, sv, nv, sv2, nv2, k1, k2, r1, r2, r3⟩

/-- One way, then the other made behind it. -/
theorem TC.two {W w1 w2 : World} {b h b2 h2 : Nat} {m o : Int} {s s2 : CSt} (k1 : COf W w1 b h m o s) (k2 : COf w1 w2 b2 h2 m o s2) : TC W w2 b h b2 h2 m o s s2 := by
  obtain ⟨sv, nv, x1, r1⟩ := k1.ex
  obtain ⟨sv2, nv2, x2, r2⟩ := k2.ex
  have l1 := (Blk.lt x1.cs)
  have l2 := x1.hx.blk.lt
  have g1 := k2.beb
  have g2 := k2.beh
  have g3 := k1.bel.size
  refine ⟨k1.bel.trans (k2.bel.mono g3), k1.beb, k1.beh, by omega, by omega, by omega, by omega, sv, nv, sv2, nv2, x1.below k2.bel, x2, r1, fun q hq => Nat.le_trans g3 (r2 q hq), fun q hq hq2 => ?_⟩
  obtain ⟨ds, hd⟩ := x1.hx.row33 hq
  have := hd.lt
  have := r2 q hq2
  omega
theorem TC.hold {W w : World} {b h b2 h2 : Nat} {m o : Int} {s s2 : CSt} (k : TC W w b h b2 h2 m o s s2) :
    Calls Try.prog 47 #[.pointer (some ⟨b, 0, none⟩)] w fun e w' => e = .returned (.pointer (some ⟨h, 0, none⟩)) ∧ w' = w := by
  obtain ⟨sv, nv, sv2, nv2, k1, k2, r1, r2, r3⟩ := k.ex
  exact k1.hold
theorem TC.put {W w : World} {b h b2 h2 : Nat} {m o : Int} {s s2 : CSt} (k : TC W w b h b2 h2 m o s s2) (v : Value) (x : List Int) (hx : Oct w v x) (hm : m ≤ 1000) :
    Calls Try.prog 21 #[.pointer (some ⟨h, 0, none⟩), v] w fun e w' => e = .returned (.int .i64 (putCode m o s.ss s.ns x.length)) ∧ TC W w' b h b2 h2 m o { s with ns := if putCode m o s.ss s.ns x.length = 0 then s.ns ++ [x] else s.ns } s2 ∧ KpC w w' := by
  obtain ⟨sv, nv, sv2, nv2, k1, k2, r1, r2, r3⟩ := k.ex
  refine (k1.put v x hx hm).mono ?_
  rintro e w' ⟨rfl, v', kn, hF⟩
  have := k.step k1 k2 r1 r2 r3 kn hF
  exact ⟨rfl, this.1, this.2⟩
theorem TC.next_fill {W w : World} {b h b2 h2 : Nat} {m o : Int} {s s2 : CSt} (k : TC W w b h b2 h2 m o s s2) (hs : s.ss = []) (ho : s.ns = [] ∨ s.force = true) :
    Calls Try.prog 48 #[.pointer (some ⟨b, 0, none⟩)] w fun e w' => e = .returned (.agg #[.int .u8 s.last, .int .u8 ((s.f - 1) % 128), .bool true, .bool true, .int .u8 0, .int .u8 0, .bool false, .slice none 0 0]) ∧ TC W w' b h b2 h2 m o { s with pl := 0, force := false } s2 ∧ KpC w w' := by
  obtain ⟨sv, nv, sv2, nv2, k1, k2, r1, r2, r3⟩ := k.ex
  refine (k1.next_fill hs ho).mono ?_
  rintro e w' ⟨rfl, kn, hF⟩
  have := k.step k1 k2 r1 r2 r3 kn hF
  exact ⟨rfl, this.1, this.2⟩
theorem TC.next_new {W w : World} {b h b2 h2 : Nat} {m o : Int} {s s2 : CSt} (k : TC W w b h b2 h2 m o s s2) (ha : s.force = false) (x : List Int) (rest : List (List Int)) (hn : s.ns = x :: rest) (hfit : fitsB s = true) (hl : s.ss.length < 127) :
    Calls Try.prog 48 #[.pointer (some ⟨b, 0, none⟩)] w fun e w' => ∃ (g8 c8 : Nat) (cs8 : List Value), e = .returned (.agg #[.int .u8 s.last, .int .u8 ((s.f + s.ss.length) % 128), .bool true, .bool true, .int .u8 2, .int .u8 0, .bool false, .slice (some ⟨g8, 0, none⟩) x.length c8]) ∧ TC W w' b h b2 h2 m o { s with ss := s.ss ++ [x], ns := rest } s2 ∧ KpC w w' ∧ Blk w' g8 cs8 5 ∧ (∀ (j : Nat) (u : Value), (x.map (Value.int .u8))[j]? = some u → cs8[j]? = some u) := by
  obtain ⟨sv, nv, sv2, nv2, k1, k2, r1, r2, r3⟩ := k.ex
  refine (k1.next_new ha x rest hn hfit hl).mono ?_
  rintro e w' ⟨g8, c8, cs8, rfl, ⟨sv', nv', kn, hF⟩, a, b⟩
  have := k.step k1 k2 r1 r2 r3 kn hF
  exact ⟨g8, c8, cs8, rfl, this.1, this.2, a, b⟩
theorem TC.next_again {W w : World} {b h b2 h2 : Nat} {m o : Int} {s s2 : CSt} (k : TC W w b h b2 h2 m o s s2) (ho : s.ns = [] ∨ forceB s = true) (x : List Int) (hx : s.ss[placeC s]? = some x) :
    Calls Try.prog 48 #[.pointer (some ⟨b, 0, none⟩)] w fun e w' => ∃ (g8 c8 : Nat) (cs8 : List Value), e = .returned (.agg #[.int .u8 s.last, .int .u8 ((s.f + placeC s) % 128), .bool true, .bool true, .int .u8 2, .int .u8 0, .bool false, .slice (some ⟨g8, 0, none⟩) x.length c8]) ∧ TC W w' b h b2 h2 m o { s with pl := placeC s + 1, force := forceC s } s2 ∧ KpC w w' ∧ Blk w' g8 cs8 5 ∧ (∀ (j : Nat) (u : Value), (x.map (Value.int .u8))[j]? = some u → cs8[j]? = some u) := by
  obtain ⟨sv, nv, sv2, nv2, k1, k2, r1, r2, r3⟩ := k.ex
  refine (k1.next_again ho x hx).mono ?_
  rintro e w' ⟨g8, c8, cs8, rfl, kn, hF, a, b⟩
  have := k.step k1 k2 r1 r2 r3 kn hF
  exact ⟨g8, c8, cs8, rfl, this.1, this.2, a, b⟩
theorem TC.answer_yes {W w : World} {b h b2 h2 : Nat} {m o : Int} {s s2 : CSt} (k : TC W w b h b2 h2 m o s s2) (bsn fsn kind st : Int) (bib fib x : Bool) (iv : Value) (hiv : iv.oneCell' = true) (hn : 0 ≤ bsn ∧ bsn ≤ 255) (hk : knowsB s.f s.ss.length bsn = true) (i : Nat) (hi : (bsn - s.f + 1) % 128 = i) :
    Calls Try.prog 50 #[.pointer (some ⟨b, 0, none⟩), .agg #[.int .u8 bsn, .int .u8 fsn, .bool bib, .bool fib, .int .u8 kind, .int .u8 st, .bool x, iv]] w fun e w' => e = .returned (.tuple #[.int .i64 i, .int .i64 0]) ∧ TC W w' b h b2 h2 m o (ansC s bsn i) s2 ∧ KpC w w' := by
  obtain ⟨sv, nv, sv2, nv2, k1, k2, r1, r2, r3⟩ := k.ex
  refine (k1.answer_yes bsn fsn kind st bib fib x iv hiv hn hk i hi).mono ?_
  rintro e w' ⟨rfl, v', kn, hF⟩
  have := k.step k1 k2 r1 r2 r3 kn hF
  exact ⟨rfl, this.1, this.2⟩
theorem TC.take_no {W w : World} {b h b2 h2 : Nat} {m o : Int} {s s2 : CSt} (k : TC W w b h b2 h2 m o s s2) (bsn fsn kind st : Int) (bib fib x : Bool) (iv : Value) (hiv : iv.oneCell' = true) (hn : kind ≠ 2 ∨ fsn ≠ (s.last + 1) % 128) :
    Calls Try.prog 52 #[.pointer (some ⟨b, 0, none⟩), .agg #[.int .u8 bsn, .int .u8 fsn, .bool bib, .bool fib, .int .u8 kind, .int .u8 st, .bool x, iv]] w fun e w' => e = .returned (.tuple #[.slice none 0 0, .bool false, .int .i64 0]) ∧ TC W w' b h b2 h2 m o s s2 ∧ KpC w w' := by
  obtain ⟨sv, nv, sv2, nv2, k1, k2, r1, r2, r3⟩ := k.ex
  refine (k1.take_no bsn fsn kind st bib fib x iv hiv hn).mono ?_
  rintro e w' ⟨rfl, hb⟩
  exact ⟨rfl, k.below hb, .below hb⟩
theorem TC.take_msg {W w : World} {b h b2 h2 : Nat} {m o : Int} {s s2 : CSt} (k : TC W w b h b2 h2 m o s s2) (bsn fsn kind st : Int) (bib fib x : Bool) (xs : List Int) (g c : Nat) (cs : List Value) (hG : Blk w g cs 5) (hc : ∀ (j : Nat) (u : Value), (xs.map (Value.int .u8))[j]? = some u → cs[j]? = some u) (hxl : 1 ≤ xs.length ∧ xs.length ≤ 400) (hn1 : fsn = (s.last + 1) % 128) (hkd : kind = 2) :
    Calls Try.prog 52 #[.pointer (some ⟨b, 0, none⟩), .agg #[.int .u8 bsn, .int .u8 fsn, .bool bib, .bool fib, .int .u8 kind, .int .u8 st, .bool x, .slice (some ⟨g, 0, none⟩) xs.length c]] w fun e w' => ∃ (g8 c8 : Nat) (cs8 : List Value), e = .returned (.tuple #[.slice (some ⟨g8, 0, none⟩) xs.length c8, .bool true, .int .i64 0]) ∧ TC W w' b h b2 h2 m o { s with last := fsn } s2 ∧ KpC w w' ∧ Blk w' g8 cs8 5 ∧ (∀ (j : Nat) (u : Value), (xs.map (Value.int .u8))[j]? = some u → cs8[j]? = some u) := by
  obtain ⟨sv, nv, sv2, nv2, k1, k2, r1, r2, r3⟩ := k.ex
  refine (k1.take_msg bsn fsn kind st bib fib x xs g c cs hG hc hxl hn1 hkd).mono ?_
  rintro e w' ⟨g8, c8, cs8, rfl, kn, hF, a, b⟩
  have := k.step k1 k2 r1 r2 r3 kn hF
  exact ⟨g8, c8, cs8, rfl, this.1, this.2, a, b⟩
end Go.Proofs.Ytadheikcgdhcdaa
