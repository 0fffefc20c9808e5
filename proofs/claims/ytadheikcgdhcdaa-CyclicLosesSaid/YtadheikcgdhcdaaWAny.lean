/-
  Whatever is put, sent and answered, no more waits than may: the walk.
-/
import Derived.Laws.MakeOwn
import Derived.Test.YtadheikcgdhcdaaKinds
namespace Go.Proofs.Ytadheikcgdhcdaa
open Go.RowKit
set_option linter.unusedVariables false
set_option linter.unusedSimpArgs false

/-- A slice of numbers that came in: its elements, where there are any. -/
def Came (w : World) (k : IntKind) (a : Option Addr) (len : Nat) (zs : List Int) : Prop :=
  len ≤ zs.length ∧ (∀ z ∈ zs, (Lit.int k z).wf = true) ∧ ∀ i, i < len → ∃ x, a = some x ∧ x.block < w.heap.size ∧ w.cell? (x.add i) = some (.int k (zs.getD i 0))
theorem Came.below {w w' : World} {k : IntKind} {a : Option Addr} {len : Nat} {zs : List Int} (h : Came w k a len zs) (hb : Below w.heap.size w w') : Came w' k a len zs :=
  ⟨h.1, h.2.1, fun i hi => by
    obtain ⟨x, e, hx, hc⟩ := h.2.2 i hi
    refine ⟨x, e, Nat.lt_of_lt_of_le hx hb.size, ?_⟩
    rw [← hc]
    exact hb.cell (by unfold Addr.add; split <;> exact hx)⟩
theorem Came.wf {w : World} {k : IntKind} {a : Option Addr} {len : Nat} {zs : List Int} (h : Came w k a len zs) (i : Nat) (hi : i < len) : (Lit.int k (zs.getD i 0)).wf = true := by
  rw [List.getD_eq_getElem?_getD, List.getElem?_eq_getElem (by have := h.1; omega)]
  exact h.2.1 _ (List.getElem_mem _)

theorem ahead_answer_b (x : Addr) (w : World) : (nilAhead 242 64 (.pointer (some x)) "Answer").run Try.prog w = .ok (some false) w := by kernel_rfl
theorem ahead_answer_c (x : Addr) (w : World) : (nilAhead 242 75 (.pointer (some x)) "Answer").run Try.prog w = .ok (some false) w := by kernel_rfl
theorem octs_drop (xs : List (List Int)) (k : Nat) : 0 ≤ octs (xs.drop k) ∧ octs (xs.drop k) ≤ octs xs := by
  induction xs generalizing k with
  | nil => simp [octs]
  | cons x xs ih =>
    cases k with
    | zero =>
      have := ih 0
      simp only [octs, List.drop_zero, List.map_cons, List.sum_cons] at *
      omega
    | succ k =>
      have := ih k
      simp only [octs, List.drop_succ_cons, List.map_cons, List.sum_cons] at *
      omega
theorem octs_cons (x : List Int) (xs : List (List Int)) : octs (x :: xs) = x.length + octs xs := by simp [octs]
theorem octs_app (xs ys : List (List Int)) : octs (xs ++ ys) = octs xs + octs ys := by simp [octs]
/-- So much is held, at most. -/
def Tot (ss ns : List (List Int)) : Prop := ss.length + ns.length ≤ 16 ∧ octs ss + octs ns ≤ 600
theorem Tot.put {ss ns : List (List Int)} (h : Tot ss ns) (x : List Int) : Tot ss (if putCode 16 600 ss ns x.length = 0 then ns ++ [x] else ns) := by
  split
  · rename_i hc
    unfold putCode at hc
    split at hc
    · cases hc
    · split at hc
      · cases hc
      · split at hc
        · cases hc
        · rename_i h3
          refine ⟨by simp; omega, ?_⟩
          rw [octs_snoc]; omega
  · exact h
theorem Tot.drop {ss ns : List (List Int)} (h : Tot ss ns) (k : Nat) : Tot (ss.drop k) ns := by
  refine ⟨by have := h.1; rw [List.length_drop]; omega, ?_⟩
  have := octs_drop ss k
  have := h.2
  omega
theorem Tot.send {ss ns : List (List Int)} {x : List Int} (h : Tot ss (x :: ns)) : Tot (ss ++ [x]) ns := by
  refine ⟨by have := h.1; simp at *; omega, ?_⟩
  have := h.2
  rw [octs_cons] at this
  rw [octs_snoc]
  omega

/-- A basic way, a cyclic way that holds no more than may be. -/
def HB2 (f : Int) (W w : World) (b h : Nat) : Prop := ∃ s, BOf W w b h 16 600 s ∧ Tot s.ss s.ns ∧ s.f = f
def HC2 (f : Int) (W w : World) (b h : Nat) : Prop := ∃ s, COf W w b h 16 600 s ∧ Tot s.ss s.ns ∧ s.f = f ∧ s.n1 = 3 ∧ s.n2 = 40 ∧ s.ss.length ≤ 3 ∧ (s.ss.length ≤ 1 ∨ octs s.ss ≤ 40)
theorem BOf.fin {W w : World} {b h : Nat} {m o : Int} {s : BSt} (k : BOf W w b h m o s) : 0 ≤ s.f ∧ s.f ≤ 127 := by obtain ⟨sv, nv, hx, _⟩ := k.ex; exact hx.hx.fin
theorem COf.fin {W w : World} {b h : Nat} {m o : Int} {s : CSt} (k : COf W w b h m o s) : 0 ≤ s.f ∧ s.f ≤ 127 := by obtain ⟨sv, nv, hx, _⟩ := k.ex; exact hx.hx.fin
theorem HB2.below {f : Int} {W w w' : World} {b h : Nat} (k : HB2 f W w b h) (hb : Below w.heap.size w w') : HB2 f W w' b h := by
  obtain ⟨s, h1, h2⟩ := k; exact ⟨s, h1.below hb, h2⟩
theorem HC2.below {f : Int} {W w w' : World} {b h : Nat} (k : HC2 f W w b h) (hb : Below w.heap.size w w') : HC2 f W w' b h := by
  obtain ⟨s, h1, h2⟩ := k; exact ⟨s, h1.below hb, h2⟩
theorem HB2.put {f : Int} {W w : World} {b h : Nat} (k : HB2 f W w b h) (v : Value) (x : List Int) (hx : Oct w v x) :
    Calls Try.prog 21 #[.pointer (some ⟨h, 0, none⟩), v] w fun e w' => ∃ c : Int, e = .returned (.int .i64 c) ∧ HB2 f W w' b h ∧ KpB w w' := by
  obtain ⟨s, h1, h2, rfl⟩ := k
  refine (h1.put v x hx (by decide)).mono ?_
  rintro e w' ⟨rfl, k2, hK⟩
  exact ⟨_, rfl, ⟨_, k2, h2.put x, rfl⟩, hK⟩
theorem HC2.put {f : Int} {W w : World} {b h : Nat} (k : HC2 f W w b h) (v : Value) (x : List Int) (hx : Oct w v x) :
    Calls Try.prog 21 #[.pointer (some ⟨h, 0, none⟩), v] w fun e w' => ∃ c : Int, e = .returned (.int .i64 c) ∧ HC2 f W w' b h ∧ KpC w w' := by
  obtain ⟨s, h1, h2, rfl, h3⟩ := k
  refine (h1.put v x hx (by decide)).mono ?_
  rintro e w' ⟨rfl, k2, hK⟩
  exact ⟨_, rfl, ⟨_, k2, h2.put x, rfl, h3⟩, hK⟩
theorem BOf.inv {W w : World} {b h : Nat} {m o : Int} {s : BSt} (k : BOf W w b h m o s) : s.ag = -1 ∨ (0 ≤ s.ag ∧ s.ag < s.ss.length) := by obtain ⟨sv, nv, hx, _⟩ := k.ex; exact hx.inv
theorem COf.inv {W w : World} {b h : Nat} {m o : Int} {s : CSt} (k : COf W w b h m o s) : s.pl ≤ s.ss.length := by obtain ⟨sv, nv, hx, _⟩ := k.ex; exact hx.inv
theorem HB2.next {f : Int} {W w : World} {b h : Nat} (k : HB2 f W w b h) :
    Calls Try.prog 42 #[.pointer (some ⟨b, 0, none⟩)] w fun e w' => ∃ v : Value, e = .returned v ∧ HB2 f W w' b h ∧ KpB w w' := by
  obtain ⟨s, h1, h2, rfl⟩ := k
  rcases h1.inv with ha | ⟨ha, hb⟩
  · cases hn : s.ns with
    | nil =>
      refine (h1.next_fill ha (.inl hn)).mono ?_
      rintro e w' ⟨rfl, k2, hK⟩
      exact ⟨_, rfl, ⟨s, k2, h2, rfl⟩, hK⟩
    | cons x rest =>
      refine (h1.next_new ha x rest hn (by have := h2.1; omega)).mono ?_
      rintro e w' ⟨g8, c8, cs8, rfl, k2, hK, _⟩
      rw [hn] at h2
      exact ⟨_, rfl, ⟨_, k2, h2.send, rfl⟩, hK⟩
  · refine (h1.next_again s.ag.toNat (by omega) _ (List.getElem?_eq_getElem (by omega))).mono ?_
    rintro e w' ⟨g8, c8, cs8, rfl, k2, hK, _⟩
    exact ⟨_, rfl, ⟨_, k2, h2, rfl⟩, hK⟩
theorem HC2.next {f : Int} {W w : World} {b h : Nat} (k : HC2 f W w b h) :
    Calls Try.prog 48 #[.pointer (some ⟨b, 0, none⟩)] w fun e w' => ∃ v : Value, e = .returned v ∧ HC2 f W w' b h ∧ KpC w w' := by
  obtain ⟨s, h1, h2, rfl, e1, e2, e3, e4⟩ := k
  by_cases ho : s.ns = [] ∨ forceB s = true
  · by_cases hs : s.ss = []
    · have hf : s.ns = [] ∨ s.force = true := by
        rcases ho with h | h
        · exact .inl h
        · right
          have : fitsB s = true := by unfold fitsB; rw [hs]; rfl
          unfold forceB at h
          rw [this] at h
          simpa using h
      refine (h1.next_fill hs hf).mono ?_
      rintro e w' ⟨rfl, k2, hK⟩
      exact ⟨_, rfl, ⟨_, k2, h2, rfl, e1, e2, e3, e4⟩, hK⟩
    · have hl : 0 < s.ss.length := by
        rcases Nat.eq_zero_or_pos s.ss.length with h | h
        · exact absurd (List.eq_nil_of_length_eq_zero h) hs
        · exact h
      have hp : placeC s < s.ss.length := by
        unfold placeC; split <;> omega
      refine (h1.next_again ho _ (List.getElem?_eq_getElem hp)).mono ?_
      rintro e w' ⟨g8, c8, cs8, rfl, k2, hK, _⟩
      exact ⟨_, rfl, ⟨_, k2, h2, rfl, e1, e2, e3, e4⟩, hK⟩
  · have hns : s.ns ≠ [] := fun h => ho (.inl h)
    have hfb : forceB s = false := by
      cases h : forceB s
      · rfl
      · exact absurd (.inr h) ho
    cases hn : s.ns with
    | nil => exact absurd hn hns
    | cons x rest =>
      have hl : 0 < s.ns.length := by rw [hn]; simp
      have hff : s.force = false ∧ fitsB s = true := by
        unfold forceB at hfb
        simp only [Bool.or_eq_false_iff, Bool.and_eq_false_iff, decide_eq_false_iff_not] at hfb
        refine ⟨hfb.1, ?_⟩
        rcases hfb.2 with h | h
        · exact absurd hl h
        · simpa using h
      refine (h1.next_new hff.1 x rest hn hff.2 (by omega)).mono ?_
      rintro e w' ⟨g8, c8, cs8, rfl, k2, hK, _⟩
      have hfit := hff.2
      unfold fitsB at hfit
      rw [e1, e2, hn] at hfit
      rw [hn] at h2
      refine ⟨_, rfl, ⟨_, k2, h2.send, rfl, e1, e2, ?_, ?_⟩, hK⟩
      · show (s.ss ++ [x]).length ≤ 3
        simp only [Bool.or_eq_true, Bool.and_eq_true, decide_eq_true_eq] at hfit
        simp only [List.length_append, List.length_singleton]
        omega
      · show (s.ss ++ [x]).length ≤ 1 ∨ octs (s.ss ++ [x]) ≤ 40
        simp only [Bool.or_eq_true, Bool.and_eq_true, decide_eq_true_eq] at hfit
        rw [octs_snoc]
        simp only [List.length_append, List.length_singleton]
        rcases hfit with h | ⟨_, h⟩
        · left; omega
        · right; exact h
theorem HB2.answer {f : Int} {W w : World} {b h : Nat} (k : HB2 f W w b h) :
    Calls Try.prog 43 #[.pointer (some ⟨b, 0, none⟩), .agg #[.int .u8 f, .int .u8 0, .bool true, .bool true, .int .u8 0, .int .u8 0, .bool false, .slice none 0 0]] w fun e w' => ∃ v : Value, e = .returned v ∧ (∃ f', HB2 f' W w' b h) ∧ KpB w w' := by
  obtain ⟨s, h1, h2, rfl⟩ := k
  have hf := h1.fin
  by_cases hl : 0 < s.ss.length
  · refine (h1.answer_yes s.f 0 0 0 true true false (.slice none 0 0) rfl (by omega) (by simp only [knowsB, Bool.and_eq_true, decide_eq_true_eq]; omega) 1 (by omega)).mono ?_
    rintro e w' ⟨rfl, k2, hK⟩
    exact ⟨_, rfl, ⟨_, _, k2, h2.drop 1, rfl⟩, hK⟩
  · refine (h1.answer_no s.f 0 0 0 true true false (.slice none 0 0) rfl (by omega) (by simp only [knowsB, Bool.and_eq_false_iff, decide_eq_false_iff_not]; omega)).mono ?_
    rintro e w' ⟨rfl, k2, hK⟩
    exact ⟨_, rfl, ⟨_, _, k2, h2, rfl⟩, hK⟩
theorem HC2.answer {f : Int} {W w : World} {b h : Nat} (k : HC2 f W w b h) :
    Calls Try.prog 50 #[.pointer (some ⟨b, 0, none⟩), .agg #[.int .u8 f, .int .u8 0, .bool true, .bool true, .int .u8 0, .int .u8 0, .bool false, .slice none 0 0]] w fun e w' => ∃ v : Value, e = .returned v ∧ (∃ f', HC2 f' W w' b h) ∧ KpC w w' := by
  obtain ⟨s, h1, h2, rfl, e1, e2, e3, e4⟩ := k
  have hf := h1.fin
  by_cases hl : 0 < s.ss.length
  · refine (h1.answer_yes s.f 0 0 0 true true false (.slice none 0 0) rfl (by omega) (by simp only [knowsB, Bool.and_eq_true, decide_eq_true_eq]; omega) 1 (by omega)).mono ?_
    rintro e w' ⟨rfl, k2, hK⟩
    have hd := octs_drop s.ss 1
    refine ⟨_, rfl, ⟨_, _, k2, h2.drop 1, rfl, e1, e2, ?_, ?_⟩, hK⟩
    · show (s.ss.drop 1).length ≤ 3; rw [List.length_drop]; omega
    · show (s.ss.drop 1).length ≤ 1 ∨ octs (s.ss.drop 1) ≤ 40
      rw [List.length_drop]
      rcases e4 with h | h
      · left; omega
      · right; omega
  · refine (h1.answer_no s.f 0 0 0 true true false (.slice none 0 0) rfl (by omega) (by simp only [knowsB, Bool.and_eq_false_iff, decide_eq_false_iff_not]; omega)).mono ?_
    rintro e w' ⟨rfl, k2, hK⟩
    exact ⟨_, rfl, ⟨_, _, k2, h2, rfl, e1, e2, e3, e4⟩, hK⟩

/-- So many zeros, made. -/
theorem made_zero (n : Nat) (i : Nat) (h : i < n) : (madeCells #[Value.int .u8 0] n).toList[i]? = some (.int .u8 0) := by
  simp [madeCells, h, Nat.mod_one]
theorem make_octs (n : Nat) (hn : n ≤ 1000) (w : World) : (Instr.makeSlice 33 (.int .i64 n) (.int .i64 n)).run Try.prog w = .ok (.slice (some ⟨w.heap.size, 0, none⟩) n n) (w.alloc (.cells (madeCells #[Value.int .u8 0] n) 5)) := by
  obtain ⟨i0, hi, hz0, hz1, hz2⟩ := info_parts infoC5
  have := run_makeSlice (P := Try.prog) w 33 5 i0 (.int .u8 0) Try.underlying33 hi hz0 .i64 .i64 n n (by omega) (by omega) (by rw [hz1]; simp; omega) (by rw [hz2]; omega) (by omega)
  rw [hz1] at this
  simpa [Value.cells] using this
theorem Oct.made (w : World) (n : Nat) : Oct (w.alloc (.cells (madeCells #[Value.int .u8 0] n) 5)) (.slice (some ⟨w.heap.size, 0, none⟩) n n) (List.replicate n 0) := by
  refine ⟨_, n, by rw [List.length_replicate], fun j u hj => ⟨_, rfl, ?_⟩⟩
  have hjn : j < n := by have := (List.getElem?_eq_some_iff.1 hj).1; simpa using this
  have hu : u = .int .u8 0 := by
    simp only [List.map_replicate, List.getElem?_replicate, if_pos hjn] at hj
    simpa using hj.symm
  subst hu
  exact World.news_of_block (w := w.alloc (.cells (madeCells #[Value.int .u8 0] n) 5)) (B := w.heap.size) (cs := madeCells #[Value.int .u8 0] n) (t := 5) (fr := (0, 0)) (by show (w.heap.push _)[w.heap.size]? = _; simp) j _ (made_zero n j hjn)
end Go.Proofs.Ytadheikcgdhcdaa
