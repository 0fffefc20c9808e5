/-
  A hold of one's own, behind a world; the example of layer 10.
-/
import Derived.Test.YtadheikcgdhcdaaHxS
namespace Go.Proofs.Ytadheikcgdhcdaa
open Go.RowKit
set_option linter.unusedVariables false
set_option linter.unusedSimpArgs false

/-- Blocks of types that no hold writes are as they were. -/
def Kp (w w' : World) : Prop := w.heap.size ≤ w'.heap.size ∧ ∀ b cs T, T ≠ 105 → T ≠ 33 → Blk w b cs T → Blk w' b cs T
theorem Kp.refl (w : World) : Kp w w := ⟨Nat.le_refl _, fun _ _ _ _ _ h => h⟩
theorem Kp.trans {a b c : World} (h : Kp a b) (k : Kp b c) : Kp a c := ⟨Nat.le_trans h.1 k.1, fun _ _ _ h1 h2 hB => k.2 _ _ _ h1 h2 (h.2 _ _ _ h1 h2 hB)⟩
theorem Kp.drewN (w : World) (n : Nat) : Kp w (w.drewN n) := ⟨Nat.le_refl _, fun _ _ _ _ _ h => h⟩
theorem Kp.below {w w' : World} (h : Below w.heap.size w w') : Kp w w' := ⟨h.size, fun _ _ _ _ _ hB => hB.below h⟩
theorem HX.kp {w w' : World} {h : Nat} {m o f : Int} {sv nv sv' nv' : Value} {ss ns : List (List Int)} (k : HX w h m o f sv nv ss ns) (hF : HF w w' h sv nv sv' nv') : Kp w w' := ⟨hF.fr.size, fun _ _ _ h1 h2 hB => k.keep hF hB h1 h2⟩

/-- A hold that lies behind the world W, of which nothing was touched. -/
structure HOf (W w : World) (h : Nat) (m o f : Int) (ss ns : List (List Int)) : Prop where
  bel : Below W.heap.size W w
  beh : W.heap.size ≤ h
  ex : ∃ sv nv, HX w h m o f sv nv ss ns ∧ ∀ q, Ro sv nv q → W.heap.size ≤ q

theorem HX.empty {w : World} {h : Nat} {m o f : Int} (hB : Blk w h [.int .i64 m, .int .i64 o, .slice none 0 0, .int .u8 f, .slice none 0 0] 105) (hf : 0 ≤ f ∧ f ≤ 127) : HX w h m o f (.slice none 0 0) (.slice none 0 0) [] [] :=
  ⟨hB, ⟨[], SS.nil _ _ _, ⟨rfl, fun i x h => by cases h⟩⟩, ⟨[], SS.nil _ _ _, ⟨rfl, fun i x h => by cases h⟩⟩, (fun g h => by cases h), hf, by simp, by simp, fun x h => by rcases h with h | h <;> cases h⟩
theorem HOf.new (W w : World) (hb : Below W.heap.size W w) (m o : Int) : Calls Try.prog 20 #[.int .i64 m, .int .i64 o] w fun e w' => ∃ h, e = .returned (.pointer (some ⟨h, 0, none⟩)) ∧ HOf W w' h m o 0 [] [] ∧ Kp w w' := by
  refine (hnew_is m o w).mono ?_
  rintro e w' ⟨rfl, hH, hb'⟩
  exact ⟨_, rfl, ⟨hb.trans (hb'.mono hb.size), hb.size, _, _, HX.empty hH ⟨by decide, by decide⟩, fun q hq => by rcases hq with h | h <;> cases h⟩, .below hb'⟩
theorem HOf.step {W w w' : World} {h : Nat} {m' o' f' : Int} {sv nv sv' nv' : Value} {ss' ns' : List (List Int)} (hb : Below W.heap.size W w) (hh : W.heap.size ≤ h) (hR : ∀ q, Ro sv nv q → W.heap.size ≤ q) (k : HX w' h m' o' f' sv' nv' ss' ns') (hF : HF w w' h sv nv sv' nv') : HOf W w' h m' o' f' ss' ns' := by
  refine ⟨hb.trans (hF.fr.below hb.size ?_), hh, _, _, k, fun q hq => ?_⟩
  · rintro q (e | e)
    · omega
    · exact hR q e
  · rcases hF.own q hq with e | e
    · exact hR q e
    · exact Nat.le_trans hb.size e
theorem HOf.put {W w : World} {h : Nat} {m o f : Int} {ss ns : List (List Int)} (k : HOf W w h m o f ss ns) (v : Value) (x : List Int) (hx : Oct w v x) (hm : m ≤ 1000) :
    Calls Try.prog 21 #[.pointer (some ⟨h, 0, none⟩), v] w fun e w' => e = .returned (.int .i64 (putCode m o ss ns x.length)) ∧ HOf W w' h m o f ss (if putCode m o ss ns x.length = 0 then ns ++ [x] else ns) ∧ Kp w w' := by
  obtain ⟨sv, nv, hk, hR⟩ := k.ex
  refine (hk.put v x hx hm).mono ?_
  rintro e w' ⟨rfl, nv', r1, r2⟩
  exact ⟨rfl, .step k.bel k.beh hR r1 r2, hk.kp r2⟩
theorem HOf.send_ok {W w : World} {h : Nat} {m o f : Int} {ss ns : List (List Int)} {x : List Int} (k : HOf W w h m o f ss (x :: ns)) (hlen : ss.length < 127) :
    Calls Try.prog 22 #[.pointer (some ⟨h, 0, none⟩)] w fun e w' => ∃ (g8 c8 : Nat) (cs8 : List Value), e = .returned (.tuple #[.int .u8 ((f + ss.length) % 128), .slice (some ⟨g8, 0, none⟩) x.length c8, .int .i64 0]) ∧ HOf W w' h m o f (ss ++ [x]) ns ∧ Kp w w' ∧ Blk w' g8 cs8 5 ∧ (∀ (j : Nat) (u : Value), (x.map (Value.int .u8))[j]? = some u → cs8[j]? = some u) := by
  obtain ⟨sv, nv, hk, hR⟩ := k.ex
  refine (hk.send_ok hlen).mono ?_
  rintro e w' ⟨g8, c8, cs8, rfl, ⟨sv', nv', r1, r2⟩, r3, r4, _⟩
  exact ⟨g8, c8, cs8, rfl, .step k.bel k.beh hR r1 r2, hk.kp r2, r3, r4⟩
theorem HOf.send_none {W w : World} {h : Nat} {m o f : Int} {ss : List (List Int)} (k : HOf W w h m o f ss []) :
    Calls Try.prog 22 #[.pointer (some ⟨h, 0, none⟩)] w fun e w' => e = .returned (.tuple #[.int .u8 0, .slice none 0 0, .int .i64 2]) ∧ w' = w := by
  obtain ⟨sv, nv, hk, hR⟩ := k.ex
  exact hk.send_none
theorem HOf.send_full {W w : World} {h : Nat} {m o f : Int} {ss ns : List (List Int)} (k : HOf W w h m o f ss ns) (hn : 0 < ns.length) (hlen : 127 ≤ ss.length) :
    Calls Try.prog 22 #[.pointer (some ⟨h, 0, none⟩)] w fun e w' => e = .returned (.tuple #[.int .u8 0, .slice none 0 0, .int .i64 3]) ∧ w' = w := by
  obtain ⟨sv, nv, hk, hR⟩ := k.ex
  exact hk.send_full hn hlen
theorem HOf.drewN {W w : World} {h : Nat} {m o f : Int} {ss ns : List (List Int)} (k : HOf W w h m o f ss ns) (n : Nat) : HOf W (w.drewN n) h m o f ss ns := by
  obtain ⟨sv, nv, hk, hR⟩ := k.ex
  exact ⟨below_drewN k.bel n, k.beh, sv, nv, hk.drewN n, hR⟩
theorem HOf.free_yes {W w : World} {h : Nat} {m o f : Int} {ss ns : List (List Int)} (k : HOf W w h m o f ss ns) (n : Int) (hn : 0 ≤ n ∧ n ≤ 255) (hk : knowsB f ss.length n = true) (i : Nat) (hi : (n - f + 1) % 128 = i) :
    Calls Try.prog 23 #[.pointer (some ⟨h, 0, none⟩), .int .u8 n] w fun e w' => e = .returned (.tuple #[.int .i64 i, .int .i64 0]) ∧ HOf W w' h m o ((n + 1) % 128) (ss.drop i) ns ∧ Kp w w' := by
  obtain ⟨sv, nv, hx, hR⟩ := k.ex
  refine (hx.free_yes n hn hk i hi).mono ?_
  rintro e w' ⟨rfl, sv', r1, r2⟩
  exact ⟨rfl, .step k.bel k.beh hR r1 r2, hx.kp r2⟩
theorem HOf.below {W w w' : World} {h : Nat} {m o f : Int} {ss ns : List (List Int)} (k : HOf W w h m o f ss ns) (hb : Below w.heap.size w w') : HOf W w' h m o f ss ns := by
  obtain ⟨sv, nv, hx, hR⟩ := k.ex
  exact ⟨k.bel.trans (hb.mono k.bel.size), k.beh, sv, nv, hx.below hb, hR⟩
theorem HOf.sent {W w : World} {h : Nat} {m o f : Int} {ss ns : List (List Int)} (k : HOf W w h m o f ss ns) :
    Calls Try.prog 24 #[.pointer (some ⟨h, 0, none⟩)] w fun e w' => e = .returned (.int .i64 ss.length) ∧ w' = w := by
  obtain ⟨sv, nv, hx, hR⟩ := k.ex
  obtain ⟨svs, hs1, hs2⟩ := hx.sl
  obtain ⟨sa, sc, rfl⟩ := hs1.shape
  have c2 := hx.blk.cell 2 rfl
  rw [hs2.1]
  clear hx hs1 hs2 hR k
  go_enter Try.func24, Try.ntmps24
  go_wp2
  go_ret
  exact ⟨rfl, rfl⟩
/-- The octets of a block of one's own. -/
theorem Oct.blk {w : World} {g c : Nat} {cs : List Value} {x : List Int} (hB : Blk w g cs 5) (hc : ∀ (j : Nat) (u : Value), (x.map (Value.int .u8))[j]? = some u → cs[j]? = some u) : Oct w (.slice (some ⟨g, 0, none⟩) x.length c) x :=
  ⟨_, _, rfl, fun j u hj => ⟨_, rfl, by rw [hadd]; exact hB.cell j (hc j u hj)⟩⟩
theorem Oct.new (w : World) (x : List Int) (t : TypeId) (fr : Nat × Nat) (c : Nat) : Oct (w.alloc (.cells (x.map (Value.int .u8)).toArray t fr)) (.slice (some ⟨w.heap.size, 0, none⟩) x.length c) x :=
  ⟨_, _, rfl, fun j u hj => ⟨_, rfl, World.news_of_block (w := w.alloc (.cells (x.map (Value.int .u8)).toArray t fr)) (B := w.heap.size) (cs := (x.map (Value.int .u8)).toArray) (t := t) (fr := fr) (by show (w.heap.push _)[w.heap.size]? = _; simp) j u (by simpa using hj)⟩⟩

set_option maxRecDepth 100000 in
theorem awake10_any (w : World) : Calls Try.prog 19 #[] w fun e w' => e = .returned (.bool true) ∧ Below w.heap.size w w' := by
  have kc := fun (w : World) (C : Array Value) (n c : Nat) => Lib.run_convert_bytes_const (P := Try.prog) w 33 5 C n c Try.underlying33 Try.underlying5
  go_enter Try.func19, Try.ntmps19
  go_wp2_with fail
  refine (HOf.new w w (Below.refl _ _) 5 1000).mono ?_
  rintro e w1 ⟨h, rfl, k1, -⟩
  go_wp2_with fail
  refine ((k1.below ((Below.refl _ _).alloc (Nat.le_refl _) _)).put _ [97, 98, 99] (Oct.new w1 [97, 98, 99] 5 (3, 4) 3) (by decide)).mono ?_
  rintro e w2 ⟨rfl, k2, -⟩
  have e1 : putCode 5 1000 [] [] ([97, 98, 99] : List Int).length = 0 := by decide
  rw [e1]
  rw [e1, if_pos rfl, List.nil_append] at k2
  go_wp2_with fail
  refine (k2.send_ok (by decide)).mono ?_
  rintro e w3 ⟨g8, c8, cs8, rfl, k3, -, -, -⟩
  go_wp2_with fail
  refine (k3.free_yes 0 (by decide) (by decide) 1 (by decide)).mono ?_
  rintro e w4 ⟨rfl, k4, -⟩
  go_wp2
  go_ret
  exact ⟨rfl, k4.bel⟩
end Go.Proofs.Ytadheikcgdhcdaa
