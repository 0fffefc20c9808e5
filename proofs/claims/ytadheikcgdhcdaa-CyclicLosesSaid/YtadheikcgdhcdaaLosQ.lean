/-
  Two basic ways, and the units that are on their way: what a world holds of them.
-/
import Derived.Test.YtadheikcgdhcdaaLosD
import Derived.Test.YtadheikcgdhcdaaBLP
import Derived.Test.YtadheikcgdhcdaaHxT
namespace Go.Proofs.Ytadheikcgdhcdaa
open Go.RowKit
set_option linter.unusedVariables false
set_option linter.unusedSimpArgs false

theorem infoU : (Try.prog.info? 69).map (fun i => (i.zero.map (fun z => z.cells.size), i.size, decide (i.bytes ≤ 1000))) = some (some 8, 8, true) := by kernel_rfl
theorem info_unit : ∃ i z, Try.prog.info? 69 = some i ∧ i.zero = some z ∧ i.size = 8 ∧ i.bytes ≤ 1000 ∧ z.cells.size = 8 := by
  obtain ⟨i, hi, he⟩ := Option.map_eq_some_iff.1 infoU
  simp only [Prod.mk.injEq] at he
  obtain ⟨z, hz, hz2⟩ := Option.map_eq_some_iff.1 he.1
  exact ⟨i, z, hi, hz, he.2.1, of_decide_eq_true he.2.2, hz2⟩
/-- A unit's number. -/
def unum (K x : Nat) : Int := if x < K then (x : Int) else (127 + (x : Int)) % 128
def ukind (K x : Nat) : Int := if x < K then 2 else 0
/-- A unit there, a unit back. -/
def ucell (K : Nat) (u : Bool × Nat) (iv : Value) : List Value := [.int .u8 127, .int .u8 (unum K u.2), .bool true, .bool u.1, .int .u8 (ukind K u.2), .int .u8 0, .bool false, iv]
def vcell (v : Nat × Bool) : List Value := [.int .u8 ((127 + (v.1 : Int)) % 128), .int .u8 127, .bool v.2, .bool true, .int .u8 0, .int .u8 0, .bool false, .slice none 0 0]
def Uc (w : World) (K : Nat) : List (Bool × Nat) → List Value → Prop
  | [], xs => xs = []
  | u :: U, xs => ∃ iv ys, Iv w (decide (u.2 < K)) u.2 iv ∧ xs = ucell K u iv ++ ys ∧ Uc w K U ys
theorem Uc.to {w w' : World} {K : Nat} (h : ∀ m g iv, Iv w m g iv → Iv w' m g iv) : ∀ {U : List (Bool × Nat)} {xs : List Value}, Uc w K U xs → Uc w' K U xs
  | [], xs, e => e
  | u :: U, xs, ⟨iv, ys, h1, h2, h3⟩ => ⟨iv, ys, h _ _ _ h1, h2, Uc.to h h3⟩
theorem Uc.snoc {w : World} {K : Nat} {u : Bool × Nat} {iv : Value} (hi : Iv w (decide (u.2 < K)) u.2 iv) : ∀ {U : List (Bool × Nat)} {xs : List Value}, Uc w K U xs → Uc w K (U ++ [u]) (xs ++ ucell K u iv)
  | [], xs, e => by have : xs = [] := e; subst this; exact ⟨iv, [], hi, by simp, rfl⟩
  | x :: U, xs, ⟨iv2, ys, h1, h2, h3⟩ => ⟨iv2, ys ++ ucell K u iv, h1, by rw [h2, List.append_assoc], Uc.snoc hi h3⟩
def Vc : List (Nat × Bool) → List Value
  | [] => []
  | v :: V => vcell v ++ Vc V
theorem Vc_snoc (v : Nat × Bool) : ∀ V, Vc (V ++ [v]) = Vc V ++ vcell v
  | [] => by simp [Vc]
  | x :: V => by simp only [List.cons_append, Vc, Vc_snoc v V, List.append_assoc]
/-- Two ways, and both rows of units. -/
structure QW (W w : World) (ba ha bb hb K : Nat) (vU vV : Value) (z : LSt) (U : List (Bool × Nat)) (V : List (Nat × Bool)) : Prop where
  ld : LD W w ba ha bb hb z
  us : ∃ xs, SU w W.heap.size vU U.length xs ∧ Uc w K U xs
  vs : SU w W.heap.size vV V.length (Vc V)
  sep : ∀ g, vU.ownBlock = some g → vV.ownBlock = some g → False
theorem QW.call {W w w' : World} {ba ha bb hb K : Nat} {vU vV : Value} {z z' : LSt} {U : List (Bool × Nat)} {V : List (Nat × Bool)} (h : QW W w ba ha bb hb K vU vV z U V) (k : LD W w' ba ha bb hb z') (kp : KpB w w') : QW W w' ba ha bb hb K vU vV z' U V := by
  obtain ⟨h1, ⟨xs, h2, h3⟩, h4, h5⟩ := h
  have hk : ∀ g cs, Blk w g cs 69 → Blk w' g cs 69 := fun g cs hB => kp.2 _ _ 69 (by decide) (by decide) (by decide) hB
  exact ⟨k, ⟨xs, h2.keep hk, h3.to (fun _ _ _ hi => hi.kp kp)⟩, h4.keep hk, h5⟩
theorem QW.below {W w w' : World} {ba ha bb hb K : Nat} {vU vV : Value} {z : LSt} {U : List (Bool × Nat)} {V : List (Nat × Bool)} (h : QW W w ba ha bb hb K vU vV z U V) (hb' : Below w.heap.size w w') : QW W w' ba ha bb hb K vU vV z U V := h.call (h.ld.below hb') (.below hb')
theorem QW.to {W w : World} {ba ha bb hb K : Nat} {vU vV : Value} {z z' : LSt} {U : List (Bool × Nat)} {V : List (Nat × Bool)} (h : QW W w ba ha bb hb K vU vV z U V) (e : z = z') : QW W w ba ha bb hb K vU vV z' U V := e ▸ h
theorem QW.new {W w : World} {ba ha bb hb K : Nat} {z : LSt} (h : LD W w ba ha bb hb z) : QW W w ba ha bb hb K (.slice none 0 0) (.slice none 0 0) z [] [] := ⟨h, ⟨[], SU.nil _ _, rfl⟩, SU.nil _ _, fun g h => by cases h⟩
theorem ucell_len (K : Nat) (u : Bool × Nat) (iv : Value) : (ucell K u iv).length = 8 := rfl
theorem add_lit (g o j : Nat) : (⟨g, o, none⟩ : Addr).add j = ⟨g, o + j, none⟩ := by unfold Addr.add; split <;> simp_all
/-- One unit more on the line there. -/
theorem wpList_pushU {W w : World} {ba ha bb hb K : Nat} {vU vV : Value} {z : LSt} {U : List (Bool × Nat)} {V : List (Nat × Bool)} (h : QW W w ba ha bb hb K vU vV z U V) {ops : Array Oper} {rest : List Oper} {o : Oper} {a : Act} {Q : Exit → Act → World → Prop}
    (hg : o.guard = none) (s x : Operand) (hop : o.op = Op.call { callee := Callee.builtin Builtin.append, args := #[s, x], argTypes := #[77, 77] }) (hs : a.eval s = vU)
    (g c : Nat) (hx : a.eval x = .slice (some ⟨g, 0, none⟩) 1 c) (u : Bool × Nat) (iv : Value) (hiv : Iv w (decide (u.2 < K)) u.2 iv) (hB : Blk w g (ucell K u iv) 69) (hne : vU.ownBlock ≠ some g) (hb1 : U.length ≤ 1000)
    (hK : ∀ v' w', QW W w' ba ha bb hb K v' vV z (U ++ [u]) V → wpList Try.prog ops Q rest (a.put o.dst v') w') :
    wpList Try.prog ops Q (o :: rest) a w := by
  obtain ⟨h1, ⟨xs, h2, h3⟩, h4, h5⟩ := h
  obtain ⟨i0, z0, i1, i2, i3, i4, i5⟩ := info_unit
  refine wpList_append_su hg s x 77 hop i0 z0 Try.underlying77 i1 i2 i3 i4 i5 W.heap.size _ vU xs hs h2 h1.bel.size ⟨g, 0, none⟩ c (ucell K u iv) hx rfl (fun j y hj => by rw [add_lit, Nat.zero_add]; exact hB.cell _ hj) ?_ hb1 ?_
  · intro y hy
    have h1 := hiv.1
    simp only [ucell, List.mem_cons, List.not_mem_nil, or_false] at hy
    rcases hy with rfl | rfl | rfl | rfl | rfl | rfl | rfl | rfl <;> first | rfl | exact h1
  · intro v' w' r1 r2 r3
    have hr : ∀ q, vU.ownBlock = some q → W.heap.size ≤ q ∧ ∃ cs, Blk w q cs 69 := fun q e => by have := h2.own e; exact ⟨this.1, this.2.2⟩
    refine hK v' w' ⟨h1.grown r2 hr, ⟨_, by simpa using r1, Uc.snoc (hiv.grown r2 (fun q e => (hr q e).2)) (h3.to (fun _ _ _ hi => hi.grown r2 (fun q e => (hr q e).2)))⟩, h4.grown r2 (fun g e e2 => h5 g e2 e), fun g e e2 => ?_⟩
    rcases r3 g e with e3 | e3
    · exact h5 g e3 e2
    · have := (h4.own e2).2.1
      omega
/-- One unit more on the line back. -/
theorem wpList_pushV {W w : World} {ba ha bb hb K : Nat} {vU vV : Value} {z : LSt} {U : List (Bool × Nat)} {V : List (Nat × Bool)} (h : QW W w ba ha bb hb K vU vV z U V) {ops : Array Oper} {rest : List Oper} {o : Oper} {a : Act} {Q : Exit → Act → World → Prop}
    (hg : o.guard = none) (s x : Operand) (hop : o.op = Op.call { callee := Callee.builtin Builtin.append, args := #[s, x], argTypes := #[77, 77] }) (hs : a.eval s = vV)
    (g c : Nat) (hx : a.eval x = .slice (some ⟨g, 0, none⟩) 1 c) (v : Nat × Bool) (hB : Blk w g (vcell v) 69) (hb1 : V.length ≤ 1000)
    (hK : ∀ v' w', QW W w' ba ha bb hb K vU v' z U (V ++ [v]) → wpList Try.prog ops Q rest (a.put o.dst v') w') :
    wpList Try.prog ops Q (o :: rest) a w := by
  obtain ⟨h1, ⟨xs, h2, h3⟩, h4, h5⟩ := h
  obtain ⟨i0, z0, i1, i2, i3, i4, i5⟩ := info_unit
  refine wpList_append_su hg s x 77 hop i0 z0 Try.underlying77 i1 i2 i3 i4 i5 W.heap.size _ vV (Vc V) hs h4 h1.bel.size ⟨g, 0, none⟩ c (vcell v) hx rfl (fun j y hj => by rw [add_lit, Nat.zero_add]; exact hB.cell _ hj) ?_ hb1 ?_
  · intro y hy
    simp only [vcell, List.mem_cons, List.not_mem_nil, or_false] at hy
    rcases hy with rfl | rfl | rfl | rfl | rfl | rfl | rfl | rfl <;> rfl
  · intro v' w' r1 r2 r3
    have hr : ∀ q, vV.ownBlock = some q → W.heap.size ≤ q ∧ ∃ cs, Blk w q cs 69 := fun q e => by have := h4.own e; exact ⟨this.1, this.2.2⟩
    refine hK v' w' ⟨h1.grown r2 hr, ⟨xs, h2.grown r2 (fun g e e2 => h5 g e e2), h3.to (fun _ _ _ hi => hi.grown r2 (fun q e => (hr q e).2))⟩, ?_, fun g e e2 => ?_⟩
    · rw [Vc_snoc]
      simpa using r1
    · rcases r3 g e2 with e3 | e3
      · exact h5 g e e3
      · have := (h2.own e).2.1
        omega
/-- The first unit there, and the others. -/
theorem QW.popU {W w : World} {ba ha bb hb K : Nat} {vU vV : Value} {z : LSt} {u : Bool × Nat} {U : List (Bool × Nat)} {V : List (Nat × Bool)} (h : QW W w ba ha bb hb K vU vV z (u :: U) V) :
    ∃ g o cap iv, vU = .slice (some ⟨g, o, none⟩) (U.length + 1) cap ∧ U.length + 1 ≤ cap ∧ cap ≤ maxLen ∧ Iv w (decide (u.2 < K)) u.2 iv ∧ (∀ i x, (ucell K u iv)[i]? = some x → w.cell? ⟨g, o + i, none⟩ = some x) ∧ QW W w ba ha bb hb K (.slice (some ⟨g, if 1 = cap then o else o + 8, none⟩) U.length (cap - 1)) vV z U V := by
  obtain ⟨h1, ⟨xs, h2, ⟨iv, ys, e1, rfl, e3⟩⟩, h4, h5⟩ := h
  obtain ⟨g, o, cap, rfl, r1, r2, r3, r4⟩ := h2.head (ucell_len _ _ _)
  exact ⟨g, o, cap, iv, rfl, r1, r2, e1, r3, h1, ⟨ys, r4, e3⟩, h4, fun q e e2 => h5 q e e2⟩
theorem QW.popV {W w : World} {ba ha bb hb K : Nat} {vU vV : Value} {z : LSt} {v : Nat × Bool} {U : List (Bool × Nat)} {V : List (Nat × Bool)} (h : QW W w ba ha bb hb K vU vV z U (v :: V)) :
    ∃ g o cap, vV = .slice (some ⟨g, o, none⟩) (V.length + 1) cap ∧ V.length + 1 ≤ cap ∧ cap ≤ maxLen ∧ (∀ i x, (vcell v)[i]? = some x → w.cell? ⟨g, o + i, none⟩ = some x) ∧ QW W w ba ha bb hb K vU (.slice (some ⟨g, if 1 = cap then o else o + 8, none⟩) V.length (cap - 1)) z U V := by
  obtain ⟨h1, h2, h4, h5⟩ := h
  obtain ⟨g, o, cap, rfl, r1, r2, r3, r4⟩ := h4.head (x := vcell v) (xs := Vc V) rfl
  exact ⟨g, o, cap, rfl, r1, r2, r3, h1, h2, r4, fun q e e2 => h5 q e e2⟩
theorem LD.sent {W w : World} {ba ha bb hb : Nat} {z : LSt} (k : LD W w ba ha bb hb z) : Calls Try.prog 24 #[.pointer (some ⟨ha, 0, none⟩)] w fun e w' => e = .returned (.int .i64 ((z.q - z.p : Nat) : Int)) ∧ w' = w := by
  obtain ⟨sv, nv, sv2, nv2, k1, k2, r1, r2, r3⟩ := k.ex
  refine (k1.hx.sent).mono ?_
  rintro e w' ⟨rfl, rfl⟩
  exact ⟨by show Ending.returned (.int .i64 ((mrow z.p (z.q - z.p)).length : Int)) = _; rw [mrow_len], rfl⟩
theorem LD.nexts {W w : World} {ba ha bb hb : Nat} {z : LSt} (k : LD W w ba ha bb hb z) : Calls Try.prog 53 #[.pointer (some ⟨ha, 0, none⟩)] w fun e w' => e = .returned (.int .i64 ((z.P - z.q : Nat) : Int)) ∧ w' = w := by
  obtain ⟨sv, nv, sv2, nv2, k1, k2, r1, r2, r3⟩ := k.ex
  refine (k1.hx.nexts).mono ?_
  rintro e w' ⟨rfl, rfl⟩
  exact ⟨by show Ending.returned (.int .i64 ((mrow z.q (z.P - z.q)).length : Int)) = _; rw [mrow_len], rfl⟩
theorem QW.shape {W w : World} {ba ha bb hb K : Nat} {vU vV : Value} {z : LSt} {U : List (Bool × Nat)} {V : List (Nat × Bool)} (h : QW W w ba ha bb hb K vU vV z U V) : ∃ ao cap, vU = .slice ao U.length cap := by
  obtain ⟨xs, h1, h2⟩ := h.us
  rcases h1.2 with ⟨rfl, h3⟩ | ⟨g, o, cap, cs, rfl, _⟩
  · exact ⟨none, 0, by rw [h3]⟩
  · exact ⟨_, _, rfl⟩
theorem QW.nextA {W w : World} {ba ha bb hb K : Nat} {vU vV : Value} {z : LSt} {U : List (Bool × Nat)} {V : List (Nat × Bool)} (h : QW W w ba ha bb hb K vU vV z U V) (hB : QB K z U V) :
    Calls Try.prog 42 #[.pointer (some ⟨ba, 0, none⟩)] w fun e w' => ∃ iv, e = .returned (.agg #[.int .u8 127, .int .u8 (unum K z.g), .bool true, .bool z.fib, .int .u8 (ukind K z.g), .int .u8 0, .bool false, iv]) ∧ Iv w' (decide (z.g < K)) z.g iv ∧ QW W w' ba ha bb hb K vU vV (lnext z) U V := by
  have b1 := hB.PK
  have b2 := hB.K39
  have b3 := hB.pr
  have b4 := hB.rg
  have b5 := hB.gq
  have b6 := hB.qK
  refine (h.ld.nextA ⟨by omega, by omega, by omega, by omega⟩).mono ?_
  rintro e w' ⟨x, iv, rfl, hx1, hx2, hx3, hiv, k2, kp⟩
  rw [b1] at hx2 hx3 hiv
  have e1 : (x : Int) = unum K z.g := by
    unfold unum
    by_cases hg : z.g < K
    · rw [if_pos hg, hx2 hg]
    · rw [if_neg hg, hx3 hg]
  exact ⟨iv, by rw [e1, b1]; rfl, hiv, h.call k2 kp⟩
theorem QW.nextB {W w : World} {ba ha bb hb K : Nat} {vU vV : Value} {z : LSt} {U : List (Bool × Nat)} {V : List (Nat × Bool)} (h : QW W w ba ha bb hb K vU vV z U V) :
    Calls Try.prog 42 #[.pointer (some ⟨bb, 0, none⟩)] w fun e w' => e = .returned (.agg #[.int .u8 ((127 + (z.r : Int)) % 128), .int .u8 127, .bool z.bib, .bool true, .int .u8 0, .int .u8 0, .bool false, .slice none 0 0]) ∧ QW W w' ba ha bb hb K vU vV z U V := by
  refine h.ld.nextB.mono ?_
  rintro e w' ⟨rfl, k2, kp⟩
  exact ⟨rfl, h.call k2 kp⟩
theorem QW.answerB {W w : World} {ba ha bb hb K : Nat} {vU vV : Value} {z : LSt} {U : List (Bool × Nat)} {V : List (Nat × Bool)} (h : QW W w ba ha bb hb K vU vV z U V) (u : Bool × Nat) (iv : Value) (hiv : iv.oneCell' = true) :
    Calls Try.prog 43 #[.pointer (some ⟨bb, 0, none⟩), .agg #[.int .u8 127, .int .u8 (unum K u.2), .bool true, .bool u.1, .int .u8 (ukind K u.2), .int .u8 0, .bool false, iv]] w fun e w' => e = .returned (.tuple #[.int .i64 0, .int .i64 0]) ∧ QW W w' ba ha bb hb K vU vV z U V ∧ KpB w w' := by
  refine (h.ld.answerB (unum K u.2) (ukind K u.2) 0 u.1 false iv hiv).mono ?_
  rintro e w' ⟨rfl, k2, kp⟩
  exact ⟨rfl, h.call k2 kp, kp⟩
theorem QW.takeB {W w : World} {ba ha bb hb K : Nat} {vU vV : Value} {z : LSt} {U U0 : List (Bool × Nat)} {V : List (Nat × Bool)} (h : QW W w ba ha bb hb K vU vV z U V) {e n : Nat} {V0 : List (Nat × Bool)} (u : Bool × Nat) (hI : QI K e n ⟨z, u :: U0, V0⟩) (iv : Value) (hiv : Iv w (decide (u.2 < K)) u.2 iv) :
    Calls Try.prog 38 #[.pointer (some ⟨bb, 0, none⟩), .agg #[.int .u8 127, .int .u8 (unum K u.2), .bool true, .bool u.1, .int .u8 (ukind K u.2), .int .u8 0, .bool false, iv]] w fun e w' => ∃ (sl : Value) (ok : Bool), e = .returned (.tuple #[sl, .bool ok, .int .i64 0]) ∧ (ok = true → z.r < K ∧ (ltake u.1 u.2 (decide (u.2 < K)) z).r = z.r + 1 ∧ ∃ (g8 c8 : Nat), sl = .slice (some ⟨g8, 0, none⟩) 3 c8 ∧ w'.cell? ⟨g8, 0, none⟩ = some (.int .u8 z.r)) ∧ (ok = false → (ltake u.1 u.2 (decide (u.2 < K)) z).r = z.r) ∧ QW W w' ba ha bb hb K vU vV (ltake u.1 u.2 (decide (u.2 < K)) z) U V ∧ KpB w w' := by
  obtain ⟨h1, h2, h3⟩ := hI.headU
  have h39 := hI.1.K39
  have b4 := hI.1.rg
  have b5 := hI.1.gq
  have b6 := hI.1.qK
  simp only at b4 b5 b6
  have hk := h.ld.takeB u.1 u.2 (decide (u.2 < K)) (unum K u.2) (by omega) (by omega) h1 (by unfold unum; by_cases hx : u.2 < K <;> simp [hx]) h3 iv hiv
  have hkk : (if decide (u.2 < K) = true then (2 : Int) else 0) = ukind K u.2 := by unfold ukind; by_cases hx : u.2 < K <;> simp [hx]
  rw [hkk] at hk
  refine hk.mono ?_
  rintro e w' ⟨sl, rfl, hsl, k2, kp⟩
  have hr : (ltake u.1 u.2 (decide (u.2 < K)) z).r = if (decide (u.1 = z.bib) && decide (u.2 = z.r) && decide (u.2 < K)) = true then z.r + 1 else z.r := by
    unfold ltake
    by_cases q1 : u.1 = z.bib
    · by_cases q2 : u.2 = z.r
      · by_cases q3 : z.r < K <;> simp [q1, q2, q3]
      · rw [if_pos q1, if_neg q2]; simp [q2]
    · rw [if_neg q1]; simp [q1]
  refine ⟨sl, _, rfl, fun hok => ?_, fun hok => ?_, h.call k2 kp, kp⟩
  · rw [if_pos hok] at hr
    obtain ⟨g8, c8, q1, q2⟩ := hsl hok
    simp only [Bool.and_eq_true, decide_eq_true_eq] at hok
    exact ⟨by omega, hr, g8, c8, q1, by rw [q2, hok.1.2]⟩
  · rw [hok] at hr
    simpa using hr
theorem QW.answerA {W w : World} {ba ha bb hb K : Nat} {vU vV : Value} {z : LSt} {U : List (Bool × Nat)} {V : List (Nat × Bool)} (h : QW W w ba ha bb hb K vU vV z U V) (v : Nat × Bool) (h1 : z.p ≤ v.1) (h2 : v.1 ≤ z.q) (h3 : z.q ≤ 39) (h4 : z.p ≤ z.g) (h5 : z.g ≤ z.q) :
    Calls Try.prog 43 #[.pointer (some ⟨ba, 0, none⟩), .agg #[.int .u8 ((127 + (v.1 : Int)) % 128), .int .u8 127, .bool v.2, .bool true, .int .u8 0, .int .u8 0, .bool false, .slice none 0 0]] w fun e w' => ∃ n : Int, e = .returned (.tuple #[.int .i64 n, .int .i64 0]) ∧ QW W w' ba ha bb hb K vU vV (lans v.1 v.2 z) U V ∧ KpB w w' := by
  refine (h.ld.answerA v.1 h1 h2 h3 h4 h5 127 0 0 v.2 true false (.slice none 0 0) rfl).mono ?_
  rintro e w' ⟨rfl, k2, kp⟩
  exact ⟨_, rfl, h.call k2 kp, kp⟩
theorem QW.takeA {W w : World} {ba ha bb hb K : Nat} {vU vV : Value} {z : LSt} {U : List (Bool × Nat)} {V : List (Nat × Bool)} (h : QW W w ba ha bb hb K vU vV z U V) (v : Nat × Bool) :
    Calls Try.prog 38 #[.pointer (some ⟨ba, 0, none⟩), .agg #[.int .u8 ((127 + (v.1 : Int)) % 128), .int .u8 127, .bool v.2, .bool true, .int .u8 0, .int .u8 0, .bool false, .slice none 0 0]] w fun e w' => e = .returned (.tuple #[.slice none 0 0, .bool false, .int .i64 0]) ∧ QW W w' ba ha bb hb K vU vV z U V ∧ KpB w w' := by
  refine (h.ld.takeA _ 0 0 v.2 false (.slice none 0 0) rfl).mono ?_
  rintro e w' ⟨rfl, k2, kp⟩
  exact ⟨rfl, h.call k2 kp, kp⟩
end Go.Proofs.Ytadheikcgdhcdaa
