/-
  Two cyclic ways, and the units that are on their way: what a world holds of them.
-/
import Derived.Test.YtadheikcgdhcdaaLosG
import Derived.Test.YtadheikcgdhcdaaLosQ
namespace Go.Proofs.Ytadheikcgdhcdaa
open Go.RowKit
set_option linter.unusedVariables false
set_option linter.unusedSimpArgs false

section
variable {n1 n2 : Int} {M : Nat}
def gnum (u : Nat × Bool) : Int := if u.2 = true then (u.1 : Int) else (127 + (u.1 : Int)) % 128
def gkind (u : Nat × Bool) : Int := if u.2 = true then 2 else 0
/-- A unit there, a unit back. -/
def gcell (u : Nat × Bool) (iv : Value) : List Value := [.int .u8 127, .int .u8 (gnum u), .bool true, .bool true, .int .u8 (gkind u), .int .u8 0, .bool false, iv]
def hcell (v : Nat) : List Value := [.int .u8 ((127 + (v : Int)) % 128), .int .u8 127, .bool true, .bool true, .int .u8 0, .int .u8 0, .bool false, .slice none 0 0]
def Ug (w : World) : List (Nat × Bool) → List Value → Prop
  | [], xs => xs = []
  | u :: U, xs => ∃ iv ys, Iv w u.2 u.1 iv ∧ xs = gcell u iv ++ ys ∧ Ug w U ys
theorem Ug.to {w w' : World} (h : ∀ m g iv, Iv w m g iv → Iv w' m g iv) : ∀ {U : List (Nat × Bool)} {xs : List Value}, Ug w U xs → Ug w' U xs
  | [], xs, e => e
  | u :: U, xs, ⟨iv, ys, h1, h2, h3⟩ => ⟨iv, ys, h _ _ _ h1, h2, Ug.to h h3⟩
theorem Ug.snoc {w : World}  {u : Nat × Bool} {iv : Value} (hi : Iv w u.2 u.1 iv) : ∀ {U : List (Nat × Bool)} {xs : List Value}, Ug w U xs → Ug w (U ++ [u]) (xs ++ gcell u iv)
  | [], xs, e => by have : xs = [] := e; subst this; exact ⟨iv, [], hi, by simp, rfl⟩
  | x :: U, xs, ⟨iv2, ys, h1, h2, h3⟩ => ⟨iv2, ys ++ gcell u iv, h1, by rw [h2, List.append_assoc], Ug.snoc hi h3⟩
def Vg : List Nat → List Value
  | [] => []
  | v :: V => hcell v ++ Vg V
theorem Vg_snoc (v : Nat) : ∀ V, Vg (V ++ [v]) = Vg V ++ hcell v
  | [] => by simp [Vg]
  | x :: V => by simp only [List.cons_append, Vg, Vg_snoc v V, List.append_assoc]
/-- Two ways, and both rows of units. -/
structure QG (n1 n2 : Int) (W w : World) (ba ha bb hb : Nat) (vU vV : Value) (z : CLt) (U : List (Nat × Bool)) (V : List Nat) : Prop where
  ld : LG n1 n2 W w ba ha bb hb z
  us : ∃ xs, SU w W.heap.size vU U.length xs ∧ Ug w U xs
  vs : SU w W.heap.size vV V.length (Vg V)
  sep : ∀ g, vU.ownBlock = some g → vV.ownBlock = some g → False
theorem QG.call {W w w' : World} {ba ha bb hb : Nat} {vU vV : Value} {z z' : CLt} {U : List (Nat × Bool)} {V : List Nat} (h : QG n1 n2 W w ba ha bb hb vU vV z U V) (k : LG n1 n2 W w' ba ha bb hb z') (kp : KpC w w') : QG n1 n2 W w' ba ha bb hb vU vV z' U V := by
  obtain ⟨h1, ⟨xs, h2, h3⟩, h4, h5⟩ := h
  have hk : ∀ g cs, Blk w g cs 69 → Blk w' g cs 69 := fun g cs hB => kp.2 _ _ 69 (by decide) (by decide) (by decide) hB
  exact ⟨k, ⟨xs, h2.keep hk, h3.to (fun _ _ _ hi => hi.kpc kp)⟩, h4.keep hk, h5⟩
theorem QG.below {W w w' : World} {ba ha bb hb : Nat} {vU vV : Value} {z : CLt} {U : List (Nat × Bool)} {V : List Nat} (h : QG n1 n2 W w ba ha bb hb vU vV z U V) (hb' : Below w.heap.size w w') : QG n1 n2 W w' ba ha bb hb vU vV z U V := h.call (h.ld.below hb') (.below hb')
theorem QG.to {W w : World} {ba ha bb hb : Nat} {vU vV : Value} {z z' : CLt} {U : List (Nat × Bool)} {V : List Nat} (h : QG n1 n2 W w ba ha bb hb vU vV z U V) (e : z = z') : QG n1 n2 W w ba ha bb hb vU vV z' U V := e ▸ h
theorem QG.new {W w : World} {ba ha bb hb : Nat} {z : CLt} (h : LG n1 n2 W w ba ha bb hb z) : QG n1 n2 W w ba ha bb hb (.slice none 0 0) (.slice none 0 0) z [] [] := ⟨h, ⟨[], SU.nil _ _, rfl⟩, SU.nil _ _, fun g h => by cases h⟩
theorem gcell_len (u : Nat × Bool) (iv : Value) : (gcell u iv).length = 8 := rfl
/-- One unit more on the line there. -/
theorem wpList_gpushU {W w : World} {ba ha bb hb : Nat} {vU vV : Value} {z : CLt} {U : List (Nat × Bool)} {V : List Nat} (h : QG n1 n2 W w ba ha bb hb vU vV z U V) {ops : Array Oper} {rest : List Oper} {o : Oper} {a : Act} {Q : Exit → Act → World → Prop}
    (hg : o.guard = none) (s x : Operand) (hop : o.op = Op.call { callee := Callee.builtin Builtin.append, args := #[s, x], argTypes := #[77, 77] }) (hs : a.eval s = vU)
    (g c : Nat) (hx : a.eval x = .slice (some ⟨g, 0, none⟩) 1 c) (u : Nat × Bool) (iv : Value) (hiv : Iv w u.2 u.1 iv) (hB : Blk w g (gcell u iv) 69) (hne : vU.ownBlock ≠ some g) (hb1 : U.length ≤ 1000)
    (hK : ∀ v' w', QG n1 n2 W w' ba ha bb hb v' vV z (U ++ [u]) V → wpList Try.prog ops Q rest (a.put o.dst v') w') :
    wpList Try.prog ops Q (o :: rest) a w := by
  obtain ⟨h1, ⟨xs, h2, h3⟩, h4, h5⟩ := h
  obtain ⟨i0, z0, i1, i2, i3, i4, i5⟩ := info_unit
  refine wpList_append_su hg s x 77 hop i0 z0 Try.underlying77 i1 i2 i3 i4 i5 W.heap.size _ vU xs hs h2 h1.bel.size ⟨g, 0, none⟩ c (gcell u iv) hx rfl (fun j y hj => by rw [add_lit, Nat.zero_add]; exact hB.cell _ hj) ?_ hb1 ?_
  · intro y hy
    have h1 := hiv.1
    simp only [gcell, List.mem_cons, List.not_mem_nil, or_false] at hy
    rcases hy with rfl | rfl | rfl | rfl | rfl | rfl | rfl | rfl <;> first | rfl | exact h1
  · intro v' w' r1 r2 r3
    have hr : ∀ q, vU.ownBlock = some q → W.heap.size ≤ q ∧ ∃ cs, Blk w q cs 69 := fun q e => by have := h2.own e; exact ⟨this.1, this.2.2⟩
    refine hK v' w' ⟨h1.grown r2 hr, ⟨_, by simpa using r1, Ug.snoc (hiv.grown r2 (fun q e => (hr q e).2)) (h3.to (fun _ _ _ hi => hi.grown r2 (fun q e => (hr q e).2)))⟩, h4.grown r2 (fun g e e2 => h5 g e2 e), fun g e e2 => ?_⟩
    rcases r3 g e with e3 | e3
    · exact h5 g e3 e2
    · have := (h4.own e2).2.1
      omega
/-- One unit more on the line back. -/
theorem wpList_gpushV {W w : World} {ba ha bb hb : Nat} {vU vV : Value} {z : CLt} {U : List (Nat × Bool)} {V : List Nat} (h : QG n1 n2 W w ba ha bb hb vU vV z U V) {ops : Array Oper} {rest : List Oper} {o : Oper} {a : Act} {Q : Exit → Act → World → Prop}
    (hg : o.guard = none) (s x : Operand) (hop : o.op = Op.call { callee := Callee.builtin Builtin.append, args := #[s, x], argTypes := #[77, 77] }) (hs : a.eval s = vV)
    (g c : Nat) (hx : a.eval x = .slice (some ⟨g, 0, none⟩) 1 c) (v : Nat) (hB : Blk w g (hcell v) 69) (hb1 : V.length ≤ 1000)
    (hK : ∀ v' w', QG n1 n2 W w' ba ha bb hb vU v' z U (V ++ [v]) → wpList Try.prog ops Q rest (a.put o.dst v') w') :
    wpList Try.prog ops Q (o :: rest) a w := by
  obtain ⟨h1, ⟨xs, h2, h3⟩, h4, h5⟩ := h
  obtain ⟨i0, z0, i1, i2, i3, i4, i5⟩ := info_unit
  refine wpList_append_su hg s x 77 hop i0 z0 Try.underlying77 i1 i2 i3 i4 i5 W.heap.size _ vV (Vg V) hs h4 h1.bel.size ⟨g, 0, none⟩ c (hcell v) hx rfl (fun j y hj => by rw [add_lit, Nat.zero_add]; exact hB.cell _ hj) ?_ hb1 ?_
  · intro y hy
    simp only [hcell, List.mem_cons, List.not_mem_nil, or_false] at hy
    rcases hy with rfl | rfl | rfl | rfl | rfl | rfl | rfl | rfl <;> rfl
  · intro v' w' r1 r2 r3
    have hr : ∀ q, vV.ownBlock = some q → W.heap.size ≤ q ∧ ∃ cs, Blk w q cs 69 := fun q e => by have := h4.own e; exact ⟨this.1, this.2.2⟩
    refine hK v' w' ⟨h1.grown r2 hr, ⟨xs, h2.grown r2 (fun g e e2 => h5 g e e2), h3.to (fun _ _ _ hi => hi.grown r2 (fun q e => (hr q e).2))⟩, ?_, fun g e e2 => ?_⟩
    · rw [Vg_snoc]
      simpa using r1
    · rcases r3 g e2 with e3 | e3
      · exact h5 g e e3
      · have := (h2.own e).2.1
        omega
/-- The first unit there, and the others. -/
theorem QG.popU {W w : World} {ba ha bb hb : Nat} {vU vV : Value} {z : CLt} {u : Nat × Bool} {U : List (Nat × Bool)} {V : List Nat} (h : QG n1 n2 W w ba ha bb hb vU vV z (u :: U) V) :
    ∃ g o cap iv, vU = .slice (some ⟨g, o, none⟩) (U.length + 1) cap ∧ U.length + 1 ≤ cap ∧ cap ≤ maxLen ∧ Iv w u.2 u.1 iv ∧ (∀ i x, (gcell u iv)[i]? = some x → w.cell? ⟨g, o + i, none⟩ = some x) ∧ QG n1 n2 W w ba ha bb hb (.slice (some ⟨g, if 1 = cap then o else o + 8, none⟩) U.length (cap - 1)) vV z U V := by
  obtain ⟨h1, ⟨xs, h2, ⟨iv, ys, e1, rfl, e3⟩⟩, h4, h5⟩ := h
  obtain ⟨g, o, cap, rfl, r1, r2, r3, r4⟩ := h2.head (gcell_len _ _)
  exact ⟨g, o, cap, iv, rfl, r1, r2, e1, r3, h1, ⟨ys, r4, e3⟩, h4, fun q e e2 => h5 q e e2⟩
theorem QG.popV {W w : World} {ba ha bb hb : Nat} {vU vV : Value} {z : CLt} {v : Nat} {U : List (Nat × Bool)} {V : List Nat} (h : QG n1 n2 W w ba ha bb hb vU vV z U (v :: V)) :
    ∃ g o cap, vV = .slice (some ⟨g, o, none⟩) (V.length + 1) cap ∧ V.length + 1 ≤ cap ∧ cap ≤ maxLen ∧ (∀ i x, (hcell v)[i]? = some x → w.cell? ⟨g, o + i, none⟩ = some x) ∧ QG n1 n2 W w ba ha bb hb vU (.slice (some ⟨g, if 1 = cap then o else o + 8, none⟩) V.length (cap - 1)) z U V := by
  obtain ⟨h1, h2, h4, h5⟩ := h
  obtain ⟨g, o, cap, rfl, r1, r2, r3, r4⟩ := h4.head (x := hcell v) (xs := Vg V) rfl
  exact ⟨g, o, cap, rfl, r1, r2, r3, h1, h2, r4, fun q e e2 => h5 q e e2⟩
theorem QG.shape {W w : World} {ba ha bb hb : Nat} {vU vV : Value} {z : CLt} {U : List (Nat × Bool)} {V : List Nat} (h : QG n1 n2 W w ba ha bb hb vU vV z U V) : ∃ ao cap, vU = .slice ao U.length cap := by
  obtain ⟨xs, h1, h2⟩ := h.us
  rcases h1.2 with ⟨rfl, h3⟩ | ⟨g, o, cap, cs, rfl, _⟩
  · exact ⟨none, 0, by rw [h3]⟩
  · exact ⟨_, _, rfl⟩
theorem LG.waiting {W w : World} {ba ha bb hb : Nat} {z : CLt} (k : LG n1 n2 W w ba ha bb hb z) : Calls Try.prog 51 #[.pointer (some ⟨ha, 0, none⟩)] w fun e w' => e = .returned (.int .i64 (3 * ((z.q - z.p : Nat) : Int))) ∧ w' = w := by
  obtain ⟨sv, nv, sv2, nv2, k1, k2, r1, r2, r3⟩ := k.ex
  refine (k1.hx.waiting).mono ?_
  rintro e w' ⟨rfl, rfl⟩
  exact ⟨by show Ending.returned (.int .i64 (octs (mrow z.p (z.q - z.p)))) = _; rw [mrow_octs], rfl⟩
theorem QG.nextA {W w : World} {ba ha bb hb K : Nat} {vU vV : Value} {z : CLt} {U : List (Nat × Bool)} {V V0 : List Nat} (hMG : MG n1 n2 M) (h : QG n1 n2 W w ba ha bb hb vU vV z U V) (hB : CB K M z V0) :
    Calls Try.prog 48 #[.pointer (some ⟨ba, 0, none⟩)] w fun e w' => ∃ iv, e = .returned (.agg #[.int .u8 127, .int .u8 (gnum (gnextX M z, gnextM M z)), .bool true, .bool true, .int .u8 (gkind (gnextX M z, gnextM M z)), .int .u8 0, .bool false, iv]) ∧ Iv w' (gnextM M z) (gnextX M z) iv ∧ QG n1 n2 W w' ba ha bb hb vU vV (gnext M z) U V := by
  have b1 := hB.PK
  have b2 := hB.K19
  have b3 := hB.pr
  have b4 := hB.rq
  have b6 := hB.qK
  refine (h.ld.nextA hMG ⟨by omega, by omega, by omega⟩).mono ?_
  rintro e w' ⟨x, iv, rfl, hx1, hx2, hiv, k2, kp⟩
  have e1 : (x : Int) = gnum (gnextX M z, gnextM M z) := hx2
  exact ⟨iv, by rw [e1]; rfl, hiv, h.call k2 kp⟩
theorem QG.nextB {W w : World} {ba ha bb hb : Nat} {vU vV : Value} {z : CLt} {U : List (Nat × Bool)} {V : List Nat} (h : QG n1 n2 W w ba ha bb hb vU vV z U V) :
    Calls Try.prog 48 #[.pointer (some ⟨bb, 0, none⟩)] w fun e w' => e = .returned (.agg #[.int .u8 ((127 + (z.r : Int)) % 128), .int .u8 127, .bool true, .bool true, .int .u8 0, .int .u8 0, .bool false, .slice none 0 0]) ∧ QG n1 n2 W w' ba ha bb hb vU vV z U V := by
  refine h.ld.nextB.mono ?_
  rintro e w' ⟨rfl, k2, kp⟩
  exact ⟨rfl, h.call k2 kp⟩
theorem QG.answerB {W w : World} {ba ha bb hb : Nat} {vU vV : Value} {z : CLt} {U : List (Nat × Bool)} {V : List Nat} (h : QG n1 n2 W w ba ha bb hb vU vV z U V) (u : Nat × Bool) (iv : Value) (hiv : iv.oneCell' = true) :
    Calls Try.prog 50 #[.pointer (some ⟨bb, 0, none⟩), .agg #[.int .u8 127, .int .u8 (gnum u), .bool true, .bool true, .int .u8 (gkind u), .int .u8 0, .bool false, iv]] w fun e w' => e = .returned (.tuple #[.int .i64 0, .int .i64 0]) ∧ QG n1 n2 W w' ba ha bb hb vU vV z U V ∧ KpC w w' := by
  refine (h.ld.answerB (gnum u) (gkind u) 0 true false iv hiv).mono ?_
  rintro e w' ⟨rfl, k2, kp⟩
  exact ⟨rfl, h.call k2 kp, kp⟩
theorem QG.takeB {W w : World} {ba ha bb hb : Nat} {vU vV : Value} {z : CLt} {U : List (Nat × Bool)} {V : List Nat} (h : QG n1 n2 W w ba ha bb hb vU vV z U V) (u : Nat × Bool) (hr : z.r ≤ 39) (hx : u.1 ≤ 39) (iv : Value) (hiv : Iv w u.2 u.1 iv) :
    Calls Try.prog 52 #[.pointer (some ⟨bb, 0, none⟩), .agg #[.int .u8 127, .int .u8 (gnum u), .bool true, .bool true, .int .u8 (gkind u), .int .u8 0, .bool false, iv]] w fun e w' => ∃ (sl : Value) (ok : Bool), e = .returned (.tuple #[sl, .bool ok, .int .i64 0]) ∧ (ok = true → u.2 = true ∧ u.1 = z.r ∧ (gtake true u z).r = z.r + 1 ∧ ∃ (g8 c8 : Nat), sl = .slice (some ⟨g8, 0, none⟩) 3 c8 ∧ w'.cell? ⟨g8, 0, none⟩ = some (.int .u8 z.r)) ∧ (ok = false → (gtake true u z).r = z.r) ∧ QG n1 n2 W w' ba ha bb hb vU vV (gtake true u z) U V ∧ KpC w w' := by
  have hk := h.ld.takeB u.1 u.2 (gnum u) hr hx rfl iv hiv
  refine hk.mono ?_
  rintro e w' ⟨sl, rfl, hsl, k2, kp⟩
  have hg : gtake true u z = ctake u.1 u.2 z := rfl
  rw [hg]
  refine ⟨sl, _, rfl, fun hok => ?_, fun hok => ?_, h.call k2 kp, kp⟩
  · obtain ⟨g8, c8, q1, q2⟩ := hsl hok
    simp only [Bool.and_eq_true, decide_eq_true_eq] at hok
    refine ⟨hok.1, hok.2, ?_, g8, c8, q1, by rw [q2, hok.2]⟩
    unfold ctake
    rw [if_pos hok]
  · unfold ctake
    rw [if_neg (fun hh => by rw [hh.1, decide_eq_true hh.2] at hok; cases hok)]
theorem QG.answerA {W w : World} {ba ha bb hb : Nat} {vU vV : Value} {z : CLt} {U : List (Nat × Bool)} {V : List Nat} (h : QG n1 n2 W w ba ha bb hb vU vV z U V) (v : Nat) (h1 : z.p ≤ v) (h2 : v ≤ z.q) (h3 : z.q ≤ 39) :
    Calls Try.prog 50 #[.pointer (some ⟨ba, 0, none⟩), .agg #[.int .u8 ((127 + (v : Int)) % 128), .int .u8 127, .bool true, .bool true, .int .u8 0, .int .u8 0, .bool false, .slice none 0 0]] w fun e w' => ∃ n : Int, e = .returned (.tuple #[.int .i64 n, .int .i64 0]) ∧ QG n1 n2 W w' ba ha bb hb vU vV (cans v z) U V ∧ KpC w w' := by
  refine (h.ld.answerA v h1 h2 h3 127 0 0 true true false (.slice none 0 0) rfl).mono ?_
  rintro e w' ⟨rfl, k2, kp⟩
  exact ⟨_, rfl, h.call k2 kp, kp⟩
end
end Go.Proofs.Ytadheikcgdhcdaa
