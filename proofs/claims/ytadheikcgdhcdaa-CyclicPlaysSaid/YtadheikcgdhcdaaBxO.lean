/-
  A basic way of one's own, behind a world.
-/
import Derived.Test.YtadheikcgdhcdaaBxN
import Derived.Test.YtadheikcgdhcdaaBxR
namespace Go.Proofs.Ytadheikcgdhcdaa
open Go.RowKit
set_option linter.unusedVariables false
set_option linter.unusedSimpArgs false

/-- Blocks of types that no way writes are as they were. -/
def KpB (w w' : World) : Prop := w.heap.size ≤ w'.heap.size ∧ ∀ b cs T, T ≠ 105 → T ≠ 33 → T ≠ 116 → Blk w b cs T → Blk w' b cs T
theorem KpB.refl (w : World) : KpB w w := ⟨Nat.le_refl _, fun _ _ _ _ _ _ h => h⟩
theorem KpB.trans {a b c : World} (h : KpB a b) (k : KpB b c) : KpB a c := ⟨Nat.le_trans h.1 k.1, fun _ _ _ h1 h2 h3 hB => k.2 _ _ _ h1 h2 h3 (h.2 _ _ _ h1 h2 h3 hB)⟩
theorem KpB.below {w w' : World} (h : Below w.heap.size w w') : KpB w w' := ⟨h.size, fun _ _ _ _ _ _ hB => hB.below h⟩
theorem BX.kp {w w' : World} {b h : Nat} {m o : Int} {sv nv sv' nv' : Value} {s : BSt} (k : BX w b h m o sv nv s) (hF : BF w w' b h sv nv sv' nv') : KpB w w' := ⟨hF.fr.size, fun _ _ _ h1 h2 h3 hB => k.keep hF hB h1 h2 h3⟩
/-- A basic way as New makes it. -/
def bst0 : BSt := { fib := true, bib := true, last := 127, asked := false, ag := -1, q0 := false, q1 := false, i0 := false, i1 := false, f := 0, ss := [], ns := [] }
theorem BX.new (m o : Int) (w : World) : Calls Try.prog 37 #[.int .i64 m, .int .i64 o] w fun e w' => ∃ b h, e = .returned (.pointer (some ⟨b, 0, none⟩)) ∧ w.heap.size ≤ h ∧ w.heap.size ≤ b ∧ BX w' b h m o (.slice none 0 0) (.slice none 0 0) bst0 ∧ Below w.heap.size w w' := by
  refine (bnew_is m o w).mono ?_
  rintro e w' ⟨b, h, rfl, hh, hb, -, hB, hH, hbel⟩
  exact ⟨b, h, rfl, hh, hb, ⟨bs_of hB, HX.empty hH ⟨by decide, by decide⟩, .inl rfl, ⟨by decide, by decide⟩⟩, hbel⟩
theorem BX.put {w : World} {b h : Nat} {m o : Int} {sv nv : Value} {s : BSt} (k : BX w b h m o sv nv s) (v : Value) (x : List Int) (hx : Oct w v x) (hm : m ≤ 1000) :
    Calls Try.prog 21 #[.pointer (some ⟨h, 0, none⟩), v] w fun e w' => e = .returned (.int .i64 (putCode m o s.ss s.ns x.length)) ∧ ∃ nv', BX w' b h m o sv nv' { s with ns := if putCode m o s.ss s.ns x.length = 0 then s.ns ++ [x] else s.ns } ∧ BF w w' b h sv nv sv nv' := by
  refine (k.hx.put v x hx hm).mono ?_
  rintro e w' ⟨rfl, nv', r1, r2⟩
  exact ⟨rfl, nv', ⟨k.far r2, r1, k.inv, k.lst⟩, .of_hf r2⟩

/-- A basic way that lies behind the world W, of which nothing was touched. -/
structure BOf (W w : World) (b h : Nat) (m o : Int) (s : BSt) : Prop where
  bel : Below W.heap.size W w
  beb : W.heap.size ≤ b
  beh : W.heap.size ≤ h
  ex : ∃ sv nv, BX w b h m o sv nv s ∧ ∀ q, Ro sv nv q → W.heap.size ≤ q
theorem BOf.new (W w : World) (hb : Below W.heap.size W w) (m o : Int) : Calls Try.prog 37 #[.int .i64 m, .int .i64 o] w fun e w' => ∃ b h, e = .returned (.pointer (some ⟨b, 0, none⟩)) ∧ BOf W w' b h m o bst0 ∧ KpB w w' := by
  refine (BX.new m o w).mono ?_
  rintro e w' ⟨b, h, rfl, hh, hb1, hX, hbel⟩
  exact ⟨b, h, rfl, ⟨hb.trans (hbel.mono hb.size), Nat.le_trans hb.size hb1, Nat.le_trans hb.size hh, _, _, hX, fun q hq => by rcases hq with h | h <;> cases h⟩, .below hbel⟩
theorem BOf.step {W w w' : World} {b h : Nat} {m o : Int} {sv nv sv' nv' : Value} {s' : BSt} (hb : Below W.heap.size W w) (hbb : W.heap.size ≤ b) (hh : W.heap.size ≤ h) (hR : ∀ q, Ro sv nv q → W.heap.size ≤ q) (k : BX w' b h m o sv' nv' s') (hF : BF w w' b h sv nv sv' nv') : BOf W w' b h m o s' := by
  refine ⟨hb.trans (hF.fr.below hb.size ?_), hbb, hh, _, _, k, fun q hq => ?_⟩
  · rintro q (e | e | e)
    · omega
    · omega
    · exact hR q e
  · rcases hF.own q hq with e | e
    · exact hR q e
    · exact Nat.le_trans hb.size e
theorem BOf.below {W w w' : World} {b h : Nat} {m o : Int} {s : BSt} (k : BOf W w b h m o s) (hb : Below w.heap.size w w') : BOf W w' b h m o s := by
  obtain ⟨sv, nv, hx, hR⟩ := k.ex
  exact ⟨k.bel.trans (hb.mono k.bel.size), k.beb, k.beh, sv, nv, hx.below hb, hR⟩
theorem BOf.put {W w : World} {b h : Nat} {m o : Int} {s : BSt} (k : BOf W w b h m o s) (v : Value) (x : List Int) (hx : Oct w v x) (hm : m ≤ 1000) :
    Calls Try.prog 21 #[.pointer (some ⟨h, 0, none⟩), v] w fun e w' => e = .returned (.int .i64 (putCode m o s.ss s.ns x.length)) ∧ BOf W w' b h m o { s with ns := if putCode m o s.ss s.ns x.length = 0 then s.ns ++ [x] else s.ns } ∧ KpB w w' := by
  obtain ⟨sv, nv, hk, hR⟩ := k.ex
  refine (hk.put v x hx hm).mono ?_
  rintro e w' ⟨rfl, nv', r1, r2⟩
  exact ⟨rfl, .step k.bel k.beb k.beh hR r1 r2, hk.kp r2⟩
theorem BOf.to {W w : World} {b h : Nat} {m o : Int} {s s' : BSt} (k : BOf W w b h m o s) (e : s = s') : BOf W w b h m o s' := e ▸ k
theorem BOf.put_ok {W w : World} {b h : Nat} {m o : Int} {s : BSt} (k : BOf W w b h m o s) (v : Value) (x : List Int) (hx : Oct w v x) (hm : m ≤ 1000) (hc : putCode m o s.ss s.ns x.length = 0) (s' : BSt) (hs : { s with ns := s.ns ++ [x] } = s') :
    Calls Try.prog 21 #[.pointer (some ⟨h, 0, none⟩), v] w fun e w' => e = .returned (.int .i64 0) ∧ BOf W w' b h m o s' ∧ KpB w w' := by
  have := k.put v x hx hm
  rw [hc, if_pos rfl, hs] at this
  exact this
theorem BOf.next_fill {W w : World} {b h : Nat} {m o : Int} {s : BSt} (k : BOf W w b h m o s) (ha : s.ag = -1) (hn : s.ns = [] ∨ 127 ≤ s.ss.length) :
    Calls Try.prog 42 #[.pointer (some ⟨b, 0, none⟩)] w fun e w' => e = .returned (.agg #[.int .u8 s.last, .int .u8 ((s.f + s.ss.length - 1) % 128), .bool s.bib, .bool s.fib, .int .u8 0, .int .u8 0, .bool false, .slice none 0 0]) ∧ BOf W w' b h m o s ∧ KpB w w' := by
  obtain ⟨sv, nv, hk, hR⟩ := k.ex
  refine (hk.next_fill ha hn).mono ?_
  rintro e w' ⟨rfl, hb⟩
  exact ⟨rfl, k.below hb, .below hb⟩
theorem BOf.fill {W w : World} {b h : Nat} {m o : Int} {s : BSt} (k : BOf W w b h m o s) :
    Calls Try.prog 39 #[.pointer (some ⟨b, 0, none⟩)] w fun e w' => e = .returned (.agg #[.int .u8 s.last, .int .u8 ((s.f + s.ss.length - 1) % 128), .bool s.bib, .bool s.fib, .int .u8 0, .int .u8 0, .bool false, .slice none 0 0]) ∧ BOf W w' b h m o s ∧ KpB w w' := by
  obtain ⟨sv, nv, hk, hR⟩ := k.ex
  refine hk.fill.mono ?_
  rintro e w' ⟨rfl, hb⟩
  exact ⟨rfl, k.below hb, .below hb⟩
theorem BOf.next_new {W w : World} {b h : Nat} {m o : Int} {s : BSt} (k : BOf W w b h m o s) (ha : s.ag = -1) (x : List Int) (rest : List (List Int)) (hn : s.ns = x :: rest) (hl : s.ss.length < 127) :
    Calls Try.prog 42 #[.pointer (some ⟨b, 0, none⟩)] w fun e w' => ∃ (g8 c8 : Nat) (cs8 : List Value), e = .returned (.agg #[.int .u8 s.last, .int .u8 ((s.f + s.ss.length) % 128), .bool s.bib, .bool s.fib, .int .u8 2, .int .u8 0, .bool false, .slice (some ⟨g8, 0, none⟩) x.length c8]) ∧
      BOf W w' b h m o { s with ss := s.ss ++ [x], ns := rest } ∧ KpB w w' ∧ Blk w' g8 cs8 5 ∧ (∀ (j : Nat) (u : Value), (x.map (Value.int .u8))[j]? = some u → cs8[j]? = some u) := by
  obtain ⟨sv, nv, hk, hR⟩ := k.ex
  refine (hk.next_new ha x rest hn hl).mono ?_
  rintro e w' ⟨g8, c8, cs8, rfl, ⟨sv', nv', r1, r2⟩, r3, r4⟩
  exact ⟨g8, c8, cs8, rfl, .step k.bel k.beb k.beh hR r1 r2, hk.kp r2, r3, r4⟩
theorem BOf.next_again {W w : World} {b h : Nat} {m o : Int} {s : BSt} (k : BOf W w b h m o s) (a : Nat) (ha : s.ag = a) (x : List Int) (hx : s.ss[a]? = some x) :
    Calls Try.prog 42 #[.pointer (some ⟨b, 0, none⟩)] w fun e w' => ∃ (g8 c8 : Nat) (cs8 : List Value), e = .returned (.agg #[.int .u8 s.last, .int .u8 ((s.f + a) % 128), .bool s.bib, .bool s.fib, .int .u8 2, .int .u8 0, .bool false, .slice (some ⟨g8, 0, none⟩) x.length c8]) ∧
      BOf W w' b h m o { s with ag := if s.ss.length ≤ a + 1 then -1 else (a : Int) + 1 } ∧ KpB w w' ∧ Blk w' g8 cs8 5 ∧ (∀ (j : Nat) (u : Value), (x.map (Value.int .u8))[j]? = some u → cs8[j]? = some u) := by
  obtain ⟨sv, nv, hk, hR⟩ := k.ex
  refine (hk.next_again a ha x hx).mono ?_
  rintro e w' ⟨g8, c8, cs8, rfl, ⟨r1, r2⟩, r3, r4⟩
  exact ⟨g8, c8, cs8, rfl, .step k.bel k.beb k.beh hR r1 r2, hk.kp r2, r3, r4⟩
theorem BOf.answer_no {W w : World} {b h : Nat} {m o : Int} {s : BSt} (k : BOf W w b h m o s) (bsn fsn kind st : Int) (bib fib x : Bool) (iv : Value) (hiv : iv.oneCell' = true) (hn : 0 ≤ bsn ∧ bsn ≤ 255) (hk : knowsB s.f s.ss.length bsn = false) :
    Calls Try.prog 43 #[.pointer (some ⟨b, 0, none⟩), .agg #[.int .u8 bsn, .int .u8 fsn, .bool bib, .bool fib, .int .u8 kind, .int .u8 st, .bool x, iv]] w fun e w' => e = .returned (.tuple #[.int .i64 0, .int .i64 (if (s.q0 || s.q1) = true then 10 else 0)]) ∧ BOf W w' b h m o { s with q0 := s.q1, q1 := true } ∧ KpB w w' := by
  obtain ⟨sv, nv, hx, hR⟩ := k.ex
  refine (hx.answer_no bsn fsn kind st bib fib x iv hiv hn hk).mono ?_
  rintro e w' ⟨rfl, r1, r2⟩
  exact ⟨rfl, .step k.bel k.beb k.beh hR r1 r2, hx.kp r2⟩
theorem BOf.answer_yes {W w : World} {b h : Nat} {m o : Int} {s : BSt} (k : BOf W w b h m o s) (bsn fsn kind st : Int) (bib fib x : Bool) (iv : Value) (hiv : iv.oneCell' = true) (hn : 0 ≤ bsn ∧ bsn ≤ 255) (hk : knowsB s.f s.ss.length bsn = true) (i : Nat) (hi : (bsn - s.f + 1) % 128 = i) :
    Calls Try.prog 43 #[.pointer (some ⟨b, 0, none⟩), .agg #[.int .u8 bsn, .int .u8 fsn, .bool bib, .bool fib, .int .u8 kind, .int .u8 st, .bool x, iv]] w fun e w' => e = .returned (.tuple #[.int .i64 i, .int .i64 0]) ∧ BOf W w' b h m o (ansB s bsn bib i) ∧ KpB w w' := by
  obtain ⟨sv, nv, hx, hR⟩ := k.ex
  refine (hx.answer_yes bsn fsn kind st bib fib x iv hiv hn hk i hi).mono ?_
  rintro e w' ⟨rfl, sv', r1, r2⟩
  exact ⟨rfl, .step k.bel k.beb k.beh hR r1 r2, hx.kp r2⟩
theorem BOf.hold {W w : World} {b h : Nat} {m o : Int} {s : BSt} (k : BOf W w b h m o s) : Calls Try.prog 41 #[.pointer (some ⟨b, 0, none⟩)] w fun e w' => e = .returned (.pointer (some ⟨h, 0, none⟩)) ∧ w' = w := by
  obtain ⟨sv, nv, hx, hR⟩ := k.ex
  exact hx.hold
theorem BOf.taken {W w : World} {b h : Nat} {m o : Int} {s : BSt} (k : BOf W w b h m o s) : Calls Try.prog 40 #[.pointer (some ⟨b, 0, none⟩)] w fun e w' => e = .returned (.int .u8 s.last) ∧ w' = w := by
  obtain ⟨sv, nv, hx, hR⟩ := k.ex
  exact hx.taken
theorem BOf.resends {W w : World} {b h : Nat} {m o : Int} {s : BSt} (k : BOf W w b h m o s) : Calls Try.prog 44 #[.pointer (some ⟨b, 0, none⟩)] w fun e w' => e = .returned (.bool (decide (0 ≤ s.ag))) ∧ w' = w := by
  obtain ⟨sv, nv, hx, hR⟩ := k.ex
  exact hx.resends
theorem BOf.octs {W w : World} {b h : Nat} {m o : Int} {s : BSt} (k : BOf W w b h m o s) : 0 ≤ octs s.ss ∧ octs s.ss ≤ 300 * s.ss.length ∧ 0 ≤ octs s.ns ∧ octs s.ns ≤ 300 * s.ns.length := by
  obtain ⟨sv, nv, hx, hR⟩ := k.ex
  have h1 := octs_bd s.ss (fun x h => by have := hx.hx.len x (.inl h); omega)
  have h2 := octs_bd s.ns (fun x h => by have := hx.hx.len x (.inr h); omega)
  exact ⟨h1.1, h1.2, h2.1, h2.2⟩
end Go.Proofs.Ytadheikcgdhcdaa
