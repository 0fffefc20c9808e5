/-
  A cyclic way of one's own, behind a world; the example of layer 12.
-/
import Derived.Test.YtadheikcgdhcdaaSm
import Derived.Test.YtadheikcgdhcdaaTurns
import Derived.Test.YtadheikcgdhcdaaCxN
import Derived.Test.YtadheikcgdhcdaaCxR
namespace Go.Proofs.Ytadheikcgdhcdaa
open Go.RowKit
set_option linter.unusedVariables false
set_option linter.unusedSimpArgs false

/-- Blocks of types that no cyclic way writes are as they were. -/
def KpC (w w' : World) : Prop := w.heap.size ≤ w'.heap.size ∧ ∀ b cs T, T ≠ 105 → T ≠ 33 → T ≠ 120 → Blk w b cs T → Blk w' b cs T
theorem KpC.refl (w : World) : KpC w w := ⟨Nat.le_refl _, fun _ _ _ _ _ _ h => h⟩
theorem KpC.trans {a b c : World} (h : KpC a b) (k : KpC b c) : KpC a c := ⟨Nat.le_trans h.1 k.1, fun _ _ _ h1 h2 h3 hB => k.2 _ _ _ h1 h2 h3 (h.2 _ _ _ h1 h2 h3 hB)⟩
theorem KpC.below {w w' : World} (h : Below w.heap.size w w') : KpC w w' := ⟨h.size, fun _ _ _ _ _ _ hB => hB.below h⟩
theorem CX.kp {w w' : World} {b h : Nat} {m o : Int} {sv nv sv' nv' : Value} {s : CSt} (k : CX w b h m o sv nv s) (hF : BF w w' b h sv nv sv' nv') : KpC w w' := ⟨hF.fr.size, fun _ _ _ h1 h2 h3 hB => k.keep hF hB h1 h2 h3⟩
/-- A cyclic way as New makes it. -/
def cst0 (n1 n2 : Int) : CSt := { n1 := n1, n2 := n2, last := 127, pl := 0, force := false, q0 := false, q1 := false, f := 0, ss := [], ns := [] }
theorem CX.new (m o n1 n2 : Int) (h1 : 1 ≤ n1) (h2 : 1 ≤ n2) (w : World) : Calls Try.prog 46 #[.int .i64 m, .int .i64 o, .int .i64 n1, .int .i64 n2] w fun e w' => ∃ b h, e = .returned (.pointer (some ⟨b, 0, none⟩)) ∧ w.heap.size ≤ h ∧ w.heap.size ≤ b ∧ CX w' b h m o (.slice none 0 0) (.slice none 0 0) (cst0 n1 n2) ∧ Below w.heap.size w w' := by
  have hnew : ∀ (W W' : World), HB W w.heap.size m o (.slice none 0 0) 0 (.slice none 0 0) → Below w.heap.size w W → W' = W.alloc (.cells #[.pointer (some ⟨w.heap.size, 0, none⟩), .int .i64 n1, .int .i64 n2, .int .u8 127, .int .i64 0, .bool false, .bool false, .bool false] 120) → CX W' W.heap.size w.heap.size m o (.slice none 0 0) (.slice none 0 0) (cst0 n1 n2) ∧ Below w.heap.size w W' := by
    rintro W W' hH hb rfl
    exact ⟨⟨Blk.new W [.pointer (some ⟨w.heap.size, 0, none⟩), .int .i64 n1, .int .i64 n2, .int .u8 127, .int .i64 0, .bool false, .bool false, .bool false] 120, HX.empty (Blk.alloc hH _) ⟨Int.le_refl 0, by show (0 : Int) ≤ 127; omega⟩, Nat.le_refl _, ⟨by show (0 : Int) ≤ 127; omega, Int.le_refl 127⟩⟩, hb.alloc hb.size _⟩
  have HN := Lib.hid hnew
  clear hnew
  have e1 : n1 = 1 ∨ 1 < n1 := by omega
  have e2 : n2 = 1 ∨ 1 < n2 := by omega
  rcases e1 with rfl | e1 <;> rcases e2 with rfl | e2
  all_goals
    go_enter Try.func46, Try.ntmps46
    go_wp2_with fail
    refine (hnew_is _ _ _).mono ?_
    rintro e w1 ⟨rfl, hH, hb⟩
    have hs := hb.size
    go_wp2
    all_goals first
      | (exfalso; omega)
      | (go_ret; exact ⟨_, _, rfl, Nat.le_refl _, hs, HN.out w1 _ hH hb rfl⟩)
theorem CX.put {w : World} {b h : Nat} {m o : Int} {sv nv : Value} {s : CSt} (k : CX w b h m o sv nv s) (v : Value) (x : List Int) (hx : Oct w v x) (hm : m ≤ 1000) :
    Calls Try.prog 21 #[.pointer (some ⟨h, 0, none⟩), v] w fun e w' => e = .returned (.int .i64 (putCode m o s.ss s.ns x.length)) ∧ ∃ nv', CX w' b h m o sv nv' { s with ns := if putCode m o s.ss s.ns x.length = 0 then s.ns ++ [x] else s.ns } ∧ BF w w' b h sv nv sv nv' := by
  refine (k.hx.put v x hx hm).mono ?_
  rintro e w' ⟨rfl, nv', r1, r2⟩
  exact ⟨rfl, nv', ⟨k.far r2, r1, k.inv, k.lst⟩, .of_hf r2⟩

/-- A cyclic way that lies behind the world W, of which nothing was touched. -/
structure COf (W w : World) (b h : Nat) (m o : Int) (s : CSt) : Prop where
  bel : Below W.heap.size W w
  beb : W.heap.size ≤ b
  beh : W.heap.size ≤ h
  ex : ∃ sv nv, CX w b h m o sv nv s ∧ ∀ q, Ro sv nv q → W.heap.size ≤ q
theorem COf.new (W w : World) (hb : Below W.heap.size W w) (m o n1 n2 : Int) (h1 : 1 ≤ n1) (h2 : 1 ≤ n2) : Calls Try.prog 46 #[.int .i64 m, .int .i64 o, .int .i64 n1, .int .i64 n2] w fun e w' => ∃ b h, e = .returned (.pointer (some ⟨b, 0, none⟩)) ∧ COf W w' b h m o (cst0 n1 n2) ∧ KpC w w' := by
  refine (CX.new m o n1 n2 h1 h2 w).mono ?_
  rintro e w' ⟨b, h, rfl, hh, hb1, hX, hbel⟩
  exact ⟨b, h, rfl, ⟨hb.trans (hbel.mono hb.size), Nat.le_trans hb.size hb1, Nat.le_trans hb.size hh, _, _, hX, fun q hq => by rcases hq with h | h <;> cases h⟩, .below hbel⟩
theorem COf.step {W w w' : World} {b h : Nat} {m o : Int} {sv nv sv' nv' : Value} {s' : CSt} (hb : Below W.heap.size W w) (hbb : W.heap.size ≤ b) (hh : W.heap.size ≤ h) (hR : ∀ q, Ro sv nv q → W.heap.size ≤ q) (k : CX w' b h m o sv' nv' s') (hF : BF w w' b h sv nv sv' nv') : COf W w' b h m o s' := by
  refine ⟨hb.trans (hF.fr.below hb.size ?_), hbb, hh, _, _, k, fun q hq => ?_⟩
  · rintro q (e | e | e)
    · omega
    · omega
    · exact hR q e
  · rcases hF.own q hq with e | e
    · exact hR q e
    · exact Nat.le_trans hb.size e
theorem COf.below {W w w' : World} {b h : Nat} {m o : Int} {s : CSt} (k : COf W w b h m o s) (hb : Below w.heap.size w w') : COf W w' b h m o s := by
  obtain ⟨sv, nv, hx, hR⟩ := k.ex
  exact ⟨k.bel.trans (hb.mono k.bel.size), k.beb, k.beh, sv, nv, hx.below hb, hR⟩
theorem COf.to {W w : World} {b h : Nat} {m o : Int} {s s' : CSt} (k : COf W w b h m o s) (e : s = s') : COf W w b h m o s' := e ▸ k
theorem COf.put {W w : World} {b h : Nat} {m o : Int} {s : CSt} (k : COf W w b h m o s) (v : Value) (x : List Int) (hx : Oct w v x) (hm : m ≤ 1000) :
    Calls Try.prog 21 #[.pointer (some ⟨h, 0, none⟩), v] w fun e w' => e = .returned (.int .i64 (putCode m o s.ss s.ns x.length)) ∧ COf W w' b h m o { s with ns := if putCode m o s.ss s.ns x.length = 0 then s.ns ++ [x] else s.ns } ∧ KpC w w' := by
  obtain ⟨sv, nv, hk, hR⟩ := k.ex
  refine (hk.put v x hx hm).mono ?_
  rintro e w' ⟨rfl, nv', r1, r2⟩
  exact ⟨rfl, .step k.bel k.beb k.beh hR r1 r2, hk.kp r2⟩
theorem COf.put_ok {W w : World} {b h : Nat} {m o : Int} {s : CSt} (k : COf W w b h m o s) (v : Value) (x : List Int) (hx : Oct w v x) (hm : m ≤ 1000) (hc : putCode m o s.ss s.ns x.length = 0) (s' : CSt) (hs : { s with ns := s.ns ++ [x] } = s') :
    Calls Try.prog 21 #[.pointer (some ⟨h, 0, none⟩), v] w fun e w' => e = .returned (.int .i64 0) ∧ COf W w' b h m o s' ∧ KpC w w' := by
  have := k.put v x hx hm
  rw [hc, if_pos rfl, hs] at this
  exact this
theorem COf.next_new {W w : World} {b h : Nat} {m o : Int} {s : CSt} (k : COf W w b h m o s) (ha : s.force = false) (x : List Int) (rest : List (List Int)) (hn : s.ns = x :: rest) (hfit : fitsB s = true) (hl : s.ss.length < 127) :
    Calls Try.prog 48 #[.pointer (some ⟨b, 0, none⟩)] w fun e w' => ∃ (g8 c8 : Nat) (cs8 : List Value), e = .returned (.agg #[.int .u8 s.last, .int .u8 ((s.f + s.ss.length) % 128), .bool true, .bool true, .int .u8 2, .int .u8 0, .bool false, .slice (some ⟨g8, 0, none⟩) x.length c8]) ∧
      COf W w' b h m o { s with ss := s.ss ++ [x], ns := rest } ∧ KpC w w' ∧ Blk w' g8 cs8 5 ∧ (∀ (j : Nat) (u : Value), (x.map (Value.int .u8))[j]? = some u → cs8[j]? = some u) := by
  obtain ⟨sv, nv, hk, hR⟩ := k.ex
  refine (hk.next_new ha x rest hn hfit hl).mono ?_
  rintro e w' ⟨g8, c8, cs8, rfl, ⟨sv', nv', r1, r2⟩, r3, r4⟩
  exact ⟨g8, c8, cs8, rfl, .step k.bel k.beb k.beh hR r1 r2, hk.kp r2, r3, r4⟩
theorem CX.next_fill {w : World} {b h : Nat} {m o : Int} {sv nv : Value} {s : CSt} (k : CX w b h m o sv nv s) (hs : s.ss = []) (ho : s.ns = [] ∨ s.force = true) :
    Calls Try.prog 48 #[.pointer (some ⟨b, 0, none⟩)] w fun e w' => e = .returned (.agg #[.int .u8 s.last, .int .u8 ((s.f - 1) % 128), .bool true, .bool true, .int .u8 0, .int .u8 0, .bool false, .slice none 0 0]) ∧ CX w' b h m o sv nv { s with pl := 0, force := false } ∧ BF w w' b h sv nv sv nv := by
  refine (k.next_old (by rcases ho with h | h; exact .inl h; exact .inr (by unfold forceB; rw [h]; rfl))).mono ?_
  rintro e w' (⟨_, rfl, r1, r2⟩ | ⟨x, g8, c8, cs8, hx, _⟩)
  · exact ⟨rfl, r1, r2⟩
  · rw [hs] at hx; cases hx
theorem CX.next_again {w : World} {b h : Nat} {m o : Int} {sv nv : Value} {s : CSt} (k : CX w b h m o sv nv s) (ho : s.ns = [] ∨ forceB s = true) (x : List Int) (hx : s.ss[placeC s]? = some x) :
    Calls Try.prog 48 #[.pointer (some ⟨b, 0, none⟩)] w fun e w' => ∃ (g8 c8 : Nat) (cs8 : List Value), e = .returned (.agg #[.int .u8 s.last, .int .u8 ((s.f + placeC s) % 128), .bool true, .bool true, .int .u8 2, .int .u8 0, .bool false, .slice (some ⟨g8, 0, none⟩) x.length c8]) ∧
        CX w' b h m o sv nv { s with pl := placeC s + 1, force := forceC s } ∧ BF w w' b h sv nv sv nv ∧ Blk w' g8 cs8 5 ∧ (∀ (j : Nat) (u : Value), (x.map (Value.int .u8))[j]? = some u → cs8[j]? = some u) := by
  refine (k.next_old ho).mono ?_
  rintro e w' (⟨hn, _⟩ | ⟨y, g8, c8, cs8, hy, rfl, r⟩)
  · rw [hn] at hx; cases hx
  · rw [hx] at hy
    obtain rfl : x = y := by simpa using hy
    exact ⟨g8, c8, cs8, rfl, r⟩
theorem COf.next_fill {W w : World} {b h : Nat} {m o : Int} {s : CSt} (k : COf W w b h m o s) (hs : s.ss = []) (ho : s.ns = [] ∨ s.force = true) :
    Calls Try.prog 48 #[.pointer (some ⟨b, 0, none⟩)] w fun e w' => e = .returned (.agg #[.int .u8 s.last, .int .u8 ((s.f - 1) % 128), .bool true, .bool true, .int .u8 0, .int .u8 0, .bool false, .slice none 0 0]) ∧ COf W w' b h m o { s with pl := 0, force := false } ∧ KpC w w' := by
  obtain ⟨sv, nv, hk, hR⟩ := k.ex
  refine (hk.next_fill hs ho).mono ?_
  rintro e w' ⟨rfl, r1, r2⟩
  exact ⟨rfl, .step k.bel k.beb k.beh hR r1 r2, hk.kp r2⟩
theorem COf.next_again {W w : World} {b h : Nat} {m o : Int} {s : CSt} (k : COf W w b h m o s) (ho : s.ns = [] ∨ forceB s = true) (x : List Int) (hx : s.ss[placeC s]? = some x) :
    Calls Try.prog 48 #[.pointer (some ⟨b, 0, none⟩)] w fun e w' => ∃ (g8 c8 : Nat) (cs8 : List Value), e = .returned (.agg #[.int .u8 s.last, .int .u8 ((s.f + placeC s) % 128), .bool true, .bool true, .int .u8 2, .int .u8 0, .bool false, .slice (some ⟨g8, 0, none⟩) x.length c8]) ∧
        COf W w' b h m o { s with pl := placeC s + 1, force := forceC s } ∧ KpC w w' ∧ Blk w' g8 cs8 5 ∧ (∀ (j : Nat) (u : Value), (x.map (Value.int .u8))[j]? = some u → cs8[j]? = some u) := by
  obtain ⟨sv, nv, hk, hR⟩ := k.ex
  refine (hk.next_again ho x hx).mono ?_
  rintro e w' ⟨g8, c8, cs8, rfl, r1, r2, r3, r4⟩
  exact ⟨g8, c8, cs8, rfl, .step k.bel k.beb k.beh hR r1 r2, hk.kp r2, r3, r4⟩
theorem COf.answer_no {W w : World} {b h : Nat} {m o : Int} {s : CSt} (k : COf W w b h m o s) (bsn fsn kind st : Int) (bib fib x : Bool) (iv : Value) (hiv : iv.oneCell' = true) (hn : 0 ≤ bsn ∧ bsn ≤ 255) (hk : knowsB s.f s.ss.length bsn = false) :
    Calls Try.prog 50 #[.pointer (some ⟨b, 0, none⟩), .agg #[.int .u8 bsn, .int .u8 fsn, .bool bib, .bool fib, .int .u8 kind, .int .u8 st, .bool x, iv]] w fun e w' => e = .returned (.tuple #[.int .i64 0, .int .i64 (if (s.q0 || s.q1) = true then 10 else 0)]) ∧ COf W w' b h m o { s with q0 := s.q1, q1 := true } ∧ KpC w w' := by
  obtain ⟨sv, nv, hx, hR⟩ := k.ex
  refine (hx.answer_no bsn fsn kind st bib fib x iv hiv hn hk).mono ?_
  rintro e w' ⟨rfl, r1, r2⟩
  exact ⟨rfl, .step k.bel k.beb k.beh hR r1 r2, hx.kp r2⟩
theorem COf.answer_yes {W w : World} {b h : Nat} {m o : Int} {s : CSt} (k : COf W w b h m o s) (bsn fsn kind st : Int) (bib fib x : Bool) (iv : Value) (hiv : iv.oneCell' = true) (hn : 0 ≤ bsn ∧ bsn ≤ 255) (hk : knowsB s.f s.ss.length bsn = true) (i : Nat) (hi : (bsn - s.f + 1) % 128 = i) :
    Calls Try.prog 50 #[.pointer (some ⟨b, 0, none⟩), .agg #[.int .u8 bsn, .int .u8 fsn, .bool bib, .bool fib, .int .u8 kind, .int .u8 st, .bool x, iv]] w fun e w' => e = .returned (.tuple #[.int .i64 i, .int .i64 0]) ∧ COf W w' b h m o (ansC s bsn i) ∧ KpC w w' := by
  obtain ⟨sv, nv, hx, hR⟩ := k.ex
  refine (hx.answer_yes bsn fsn kind st bib fib x iv hiv hn hk i hi).mono ?_
  rintro e w' ⟨rfl, sv', r1, r2⟩
  exact ⟨rfl, .step k.bel k.beb k.beh hR r1 r2, hx.kp r2⟩
theorem COf.hold {W w : World} {b h : Nat} {m o : Int} {s : CSt} (k : COf W w b h m o s) : Calls Try.prog 47 #[.pointer (some ⟨b, 0, none⟩)] w fun e w' => e = .returned (.pointer (some ⟨h, 0, none⟩)) ∧ w' = w := by
  obtain ⟨sv, nv, hx, hR⟩ := k.ex
  exact hx.hold
theorem COf.taken {W w : World} {b h : Nat} {m o : Int} {s : CSt} (k : COf W w b h m o s) : Calls Try.prog 59 #[.pointer (some ⟨b, 0, none⟩)] w fun e w' => e = .returned (.int .u8 s.last) ∧ w' = w := by
  obtain ⟨sv, nv, hx, hR⟩ := k.ex
  exact hx.taken
theorem COf.resends {W w : World} {b h : Nat} {m o : Int} {s : CSt} (k : COf W w b h m o s) : Calls Try.prog 49 #[.pointer (some ⟨b, 0, none⟩)] w fun e w' => e = .returned (.bool s.force) ∧ w' = w := by
  obtain ⟨sv, nv, hx, hR⟩ := k.ex
  exact hx.resends
theorem COf.sent {W w : World} {b h : Nat} {m o : Int} {s : CSt} (k : COf W w b h m o s) : Calls Try.prog 24 #[.pointer (some ⟨h, 0, none⟩)] w fun e w' => e = .returned (.int .i64 s.ss.length) ∧ w' = w := by
  obtain ⟨sv, nv, hx, hR⟩ := k.ex
  exact hx.hx.sent
theorem COf.waiting {W w : World} {b h : Nat} {m o : Int} {s : CSt} (k : COf W w b h m o s) : Calls Try.prog 51 #[.pointer (some ⟨h, 0, none⟩)] w fun e w' => e = .returned (.int .i64 (octs s.ss)) ∧ w' = w := by
  obtain ⟨sv, nv, hx, hR⟩ := k.ex
  exact hx.hx.waiting
theorem COf.octs {W w : World} {b h : Nat} {m o : Int} {s : CSt} (k : COf W w b h m o s) : 0 ≤ octs s.ss ∧ octs s.ss ≤ 300 * s.ss.length ∧ 0 ≤ octs s.ns ∧ octs s.ns ≤ 300 * s.ns.length := by
  obtain ⟨sv, nv, hx, hR⟩ := k.ex
  have h1 := octs_bd s.ss (fun x h => by have := hx.hx.len x (.inl h); omega)
  have h2 := octs_bd s.ns (fun x h => by have := hx.hx.len x (.inr h); omega)
  exact ⟨h1.1, h1.2, h2.1, h2.2⟩

/-- So a cyclic way stands behind some acts of its own. -/
def cstF (n1 n2 : Int) (pl : Nat) (force : Bool) (f : Int) (ss ns : List (List Int)) : CSt := { n1 := n1, n2 := n2, last := 127, pl := pl, force := force, q0 := false, q1 := false, f := f, ss := ss, ns := ns }
set_option maxRecDepth 100000 in
theorem awake12_any (w : World) : Calls Try.prog 45 #[] w fun e w' => e = .returned (.bool true) ∧ Below w.heap.size w w' := by
  have kc := fun (w : World) (C : Array Value) (n c : Nat) => Lib.run_convert_bytes_const (P := Try.prog) w 33 5 C n c Try.underlying33 Try.underlying5
  go_enter Try.func45, Try.ntmps45
  go_wp2_with fail
  refine (COf.new w w (Below.refl _ _) 5 1000 3 100 (by decide) (by decide)).mono ?_
  rintro e w1 ⟨b, h, rfl, k1, -⟩
  go_wp2_with fail
  refine k1.hold.mono ?_
  rintro e w1b ⟨rfl, rfl⟩
  go_wp2_with fail
  refine ((k1.below ((Below.refl _ _).alloc (Nat.le_refl _) _)).put_ok _ [97, 98, 99] (Oct.new w1b [97, 98, 99] 5 (3, 4) 3) (by decide) (by decide) (cstF 3 100 0 false 0 [] [[97, 98, 99]]) rfl).mono ?_
  rintro e w2 ⟨rfl, k2, -⟩
  go_wp2_with fail
  have hn1 : Calls Try.prog 48 #[.pointer (some ⟨b, 0, none⟩)] w2 fun e w' => ∃ (g8 c8 : Nat) (cs8 : List Value), e = .returned (.agg #[.int .u8 127, .int .u8 0, .bool true, .bool true, .int .u8 2, .int .u8 0, .bool false, .slice (some ⟨g8, 0, none⟩) 3 c8]) ∧
      COf w w' b h 5 1000 (cstF 3 100 0 false 0 [[97, 98, 99]] []) ∧ KpC w2 w' ∧ Blk w' g8 cs8 5 ∧ (∀ (j : Nat) (u : Value), (([97, 98, 99] : List Int).map (Value.int .u8))[j]? = some u → cs8[j]? = some u) := k2.next_new rfl [97, 98, 99] [] rfl (by decide) (by decide)
  refine hn1.mono ?_
  rintro e w3 ⟨g, c, cs, rfl, k3, -, hB3, hc3⟩
  have hU3 := Blk.new w3 [.int .u8 127, .int .u8 0, .bool true, .bool true, .int .u8 2, .int .u8 0, .bool false, .slice (some ⟨g, 0, none⟩) 3 c] 69
  have k3' := k3.below ((Below.refl _ _).alloc (Nat.le_refl _) (.cells #[.int .u8 127, .int .u8 0, .bool true, .bool true, .int .u8 2, .int .u8 0, .bool false, .slice (some ⟨g, 0, none⟩) 3 c] 69))
  have hB3' := hB3.alloc (.cells #[.int .u8 127, .int .u8 0, .bool true, .bool true, .int .u8 2, .int .u8 0, .bool false, .slice (some ⟨g, 0, none⟩) 3 c] 69)
  have C3 := Lib.hid hc3
  clear hn1 hB3 k3 k2 k1 hc3
  go_wp2_with fail
  have hn2 : Calls Try.prog 48 #[.pointer (some ⟨b, 0, none⟩)] _ fun e w' => ∃ (g8 c8 : Nat) (cs8 : List Value), e = .returned (.agg #[.int .u8 127, .int .u8 0, .bool true, .bool true, .int .u8 2, .int .u8 0, .bool false, .slice (some ⟨g8, 0, none⟩) 3 c8]) ∧
      COf w w' b h 5 1000 _ ∧ KpC _ w' ∧ Blk w' g8 cs8 5 ∧ (∀ (j : Nat) (u : Value), (([97, 98, 99] : List Int).map (Value.int .u8))[j]? = some u → cs8[j]? = some u) := k3'.next_again (.inl rfl) [97, 98, 99] rfl
  refine hn2.mono ?_
  rintro e w4 ⟨g2, c2, cs2, rfl, k4, hK, hB4, hc4⟩
  have hU4 := hK.2 _ _ 69 (by decide) (by decide) (by decide) hU3
  have hB5 := hK.2 _ _ 5 (by decide) (by decide) (by decide) hB3'
  have hlt4 := hU4.lt
  have hU4' := hU4.alloc (.cells #[.int .u8 127, .int .u8 0, .bool true, .bool true, .int .u8 2, .int .u8 0, .bool false, .slice (some ⟨g2, 0, none⟩) 3 c2] 69)
  have hU5 := Blk.new w4 [.int .u8 127, .int .u8 0, .bool true, .bool true, .int .u8 2, .int .u8 0, .bool false, .slice (some ⟨g2, 0, none⟩) 3 c2] 69
  have u0 := hU4'.cell 0 rfl
  have u1 := hU4'.cell 1 rfl
  have u2 := hU4'.cell 2 rfl
  have u3 := hU4'.cell 3 rfl
  have u4 := hU4'.cell 4 rfl
  have u5 := hU4'.cell 5 rfl
  have u6 := hU4'.cell 6 rfl
  have u7 := hU4'.cell 7 rfl
  have k4' := k4.below ((Below.refl _ _).alloc (Nat.le_refl _) (.cells #[.int .u8 127, .int .u8 0, .bool true, .bool true, .int .u8 2, .int .u8 0, .bool false, .slice (some ⟨g2, 0, none⟩) 3 c2] 69))
  have o1 : Oct _ (.slice (some ⟨g, 0, none⟩) 3 c) [97, 98, 99] := Oct.blk (hB5.alloc (.cells #[.int .u8 127, .int .u8 0, .bool true, .bool true, .int .u8 2, .int .u8 0, .bool false, .slice (some ⟨g2, 0, none⟩) 3 c2] 69)) C3.out
  have o2 : Oct _ (.slice (some ⟨g2, 0, none⟩) 3 c2) [97, 98, 99] := Oct.blk (hB4.alloc (.cells #[.int .u8 127, .int .u8 0, .bool true, .bool true, .int .u8 2, .int .u8 0, .bool false, .slice (some ⟨g2, 0, none⟩) 3 c2] 69)) hc4
  have hsm := same_true 127 0 true true 2 0 false _ _ [97, 98, 99] _ o1 o2 (by decide)
  clear hn2 hK hB4 hc4 k4 k3' hU3 hB3' hB5 hU4 hU4' o1 o2
  go_wp2_with fail
  refine hsm.mono ?_
  rintro e w9 ⟨rfl, hb9⟩
  go_wp2
  go_ret
  exact ⟨rfl, (k4'.below hb9).bel⟩
end Go.Proofs.Ytadheikcgdhcdaa
