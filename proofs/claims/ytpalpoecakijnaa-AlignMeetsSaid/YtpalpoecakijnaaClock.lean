/-
  The contracts of the clock's functions, over a clock that is a block of eight numbers.
-/
import Derived.Test.YtpalpoecakijnaaBase
import Derived.Maps.AppendAt
namespace Go.Proofs.Ytpalpoecakijnaa
open Go.RowKit
set_option linter.unusedVariables false
set_option linter.unusedSimpArgs false

/-- A clock: how many ticks are left of each timer. -/
def Ck (w : World) (c : Nat) (l : List Int) : Prop := Blk w c (l.map (Value.int .i64)) 25 ∧ l.length = 8 ∧ ∀ x ∈ l, 0 ≤ x ∧ x ≤ 4294967296
theorem Ck.cell {w : World} {c : Nat} {l : List Int} (h : Ck w c l) (i : Nat) (hi : i < 8) : w.cell? ⟨c, i, none⟩ = some (.int .i64 (l.getD i 0)) := by
  have h2 := h.2.1
  refine h.1.cell i ?_
  rw [List.getElem?_map, List.getElem?_eq_getElem (by omega), List.getD_eq_getElem?_getD, List.getElem?_eq_getElem (by omega)]
  rfl
theorem Ck.frozen {w : World} {c : Nat} {l : List Int} (h : Ck w c l) (i : Nat) : w.frozen? ⟨c, i, none⟩ = false := h.1.frozen i
theorem Ck.lt {w : World} {c : Nat} {l : List Int} (h : Ck w c l) : c < w.heap.size := h.1.lt
theorem Ck.set {w : World} {c : Nat} {l : List Int} (h : Ck w c l) (i : Nat) (n : Int) (hn : 0 ≤ n ∧ n ≤ 4294967296) : Ck (w.setCell ⟨c, i, none⟩ (.int .i64 n)) c (l.set i n) :=
  ⟨(h.1.set i (.int .i64 n)).as (by rw [List.map_set]), by rw [List.length_set]; exact h.2.1, fun x hx => by
    rcases List.mem_or_eq_of_mem_set hx with hx | rfl
    · exact h.2.2 x hx
    · exact hn⟩
theorem Ck.bd {w : World} {c : Nat} {l : List Int} (h : Ck w c l) (i : Nat) : 0 ≤ l.getD i 0 ∧ l.getD i 0 ≤ 4294967296 := by
  rw [List.getD_eq_getElem?_getD]
  cases hi : l[i]? with
  | none => simp
  | some x => exact h.2.2 x (List.mem_of_getElem? hi)
theorem Ck.fr {S : Nat → Prop} {w w' : World} {c : Nat} {l : List Int} (h : Ck w c l) (hb : Fr S w w') (hn : ¬ S c) : Ck w' c l := ⟨h.1.fr hb hn, h.2⟩
theorem Ck.below {w w' : World} {c : Nat} {l : List Int} (h : Ck w c l) (hb : Below w.heap.size w w') : Ck w' c l := ⟨h.1.below hb, h.2⟩
theorem Ck.alloc {w : World} {c : Nat} {l : List Int} (h : Ck w c l) (o : Obj) : Ck (w.alloc o) c l := ⟨h.1.alloc o, h.2⟩
theorem Ck.new (w : World) : Ck (w.alloc (.cells #[.int .i64 0, .int .i64 0, .int .i64 0, .int .i64 0, .int .i64 0, .int .i64 0, .int .i64 0, .int .i64 0] 25)) w.heap.size [0, 0, 0, 0, 0, 0, 0, 0] :=
  ⟨Blk.new w _ 25, rfl, by simp⟩

/-- Is a number a timer's? -/
def tOk (i : Int) : Bool := decide (0 ≤ i) && decide (i < 8)
theorem tOk_iff (i : Int) : tOk i = true ↔ 0 ≤ i ∧ i < 8 := by simp [tOk]
theorem tOk_no (i : Int) : tOk i = false ↔ ¬ (0 ≤ i ∧ i < 8) := by rw [← tOk_iff]; simp

theorem right_any (i : Int) (w : World) : Calls Try.prog 43 #[.int .i64 i] w fun e w' => e = .returned (.bool (tOk i)) ∧ w = w' := by
  by_cases h1 : 0 ≤ i
  · by_cases h2 : i < 8
    · have hx : Hid (tOk i = true) := (tOk_iff i).2 ⟨h1, h2⟩
      go_enter Try.func43, Try.ntmps43
      go_wp2
      go_ret
      exact ⟨ret_bool (by rw [hx.out]), rfl⟩
    · have hx : Hid (tOk i = false) := (tOk_no i).2 (by omega)
      go_enter Try.func43, Try.ntmps43
      go_wp2
      go_ret
      exact ⟨ret_bool (by rw [hx.out]), rfl⟩
  · have hx : Hid (tOk i = false) := (tOk_no i).2 (by omega)
    go_enter Try.func43, Try.ntmps43
    go_wp2
    go_ret
    exact ⟨ret_bool (by rw [hx.out]), rfl⟩

/-- May a timer be started so? -/
def sOk (i n : Int) : Bool := tOk i && (decide (1 ≤ n) && decide (n ≤ 4294967296))
theorem sOk_iff (i n : Int) : sOk i n = true ↔ (0 ≤ i ∧ i < 8) ∧ 1 ≤ n ∧ n ≤ 4294967296 := by simp [sOk, tOk]
def startL (l : List Int) (i n : Int) : List Int := if sOk i n = true then l.set i.toNat n else l
def startE (i n : Int) : Int := if sOk i n = true then 0 else 1

theorem start_nil (i n : Int) (w : World) : Calls Try.prog 15 #[.pointer none, .int .i64 i, .int .i64 n] w fun e w' => e = .returned (.int .i64 1) ∧ w = w' := by
  go_enter Try.func15, Try.ntmps15
  go_wp2
  go_ret
  exact ⟨rfl, rfl⟩

theorem start_ok (c : Nat) (i n : Int) (w : World) (l : List Int) (hC : Ck w c l) (h : sOk i n = true) :
    Calls Try.prog 15 #[.pointer (some ⟨c, 0, none⟩), .int .i64 i, .int .i64 n] w fun e w' => e = .returned (.int .i64 0) ∧ w.setCell ⟨c, i.toNat, none⟩ (.int .i64 n) = w' := by
  obtain ⟨⟨h0, h1⟩, h2, h3⟩ := (sOk_iff i n).1 h
  have ht := (tOk_iff i).2 ⟨h0, h1⟩
  have hc := hC.cell i.toNat (by omega)
  have hf := hC.frozen i.toNat
  clear h
  go_enter Try.func15, Try.ntmps15
  go_wp2_with (go_at_call 43; refine (right_any _ _).mono ?_; rintro e w' ⟨rfl, rfl⟩)
  go_ret
  exact ⟨rfl, rfl⟩

theorem start_bad (c : Nat) (i n : Int) (w : World) (h : sOk i n = false) :
    Calls Try.prog 15 #[.pointer (some ⟨c, 0, none⟩), .int .i64 i, .int .i64 n] w fun e w' => e = .returned (.int .i64 1) ∧ w = w' := by
  have h' : ¬ ((0 ≤ i ∧ i < 8) ∧ 1 ≤ n ∧ n ≤ 4294967296) := by rw [← sOk_iff, h]; simp
  clear h
  cases ht : tOk i
  · clear h'
    go_enter Try.func15, Try.ntmps15
    go_wp2_with (go_at_call 43; refine (right_any _ _).mono ?_; rintro e w' ⟨rfl, rfl⟩)
    go_ret
    exact ⟨rfl, rfl⟩
  · have ht2 := (tOk_iff i).1 ht
    rcases (by omega : n < 1 ∨ 1 ≤ n ∧ 4294967296 < n) with g | g
    all_goals
      clear h'
      go_enter Try.func15, Try.ntmps15
      go_wp2_with (go_at_call 43; refine (right_any _ _).mono ?_; rintro e w' ⟨rfl, rfl⟩)
      go_ret
      exact ⟨rfl, rfl⟩

theorem start_any (c : Nat) (i n : Int) (w : World) (l : List Int) (hC : Ck w c l) :
    Calls Try.prog 15 #[.pointer (some ⟨c, 0, none⟩), .int .i64 i, .int .i64 n] w fun e w' => e = .returned (.int .i64 (startE i n)) ∧ Ck w' c (startL l i n) ∧ Fr (· = c) w w' := by
  cases h : sOk i n
  · refine (start_bad c i n w h).mono ?_
    rintro e w' ⟨rfl, rfl⟩
    exact ⟨by unfold startE; rw [h]; rfl, by unfold startL; rw [h]; exact hC, Fr.refl _ _⟩
  · refine (start_ok c i n w l hC h).mono ?_
    rintro e w' ⟨rfl, rfl⟩
    exact ⟨by unfold startE; rw [h]; rfl, by unfold startL; rw [h]; exact hC.set _ _ (by have := (sOk_iff i n).1 h; omega), Fr.set1 w ⟨c, i.toNat, none⟩ _⟩

def leftV (l : List Int) (i : Int) : Int := if tOk i = true then l.getD i.toNat 0 else 0

theorem left_nil (i : Int) (w : World) : Calls Try.prog 18 #[.pointer none, .int .i64 i] w fun e w' => e = .returned (.int .i64 0) ∧ w = w' := by
  go_enter Try.func18, Try.ntmps18
  go_wp2
  go_ret
  exact ⟨rfl, rfl⟩

theorem left_any (c : Nat) (i : Int) (w : World) (l : List Int) (hC : Ck w c l) :
    Calls Try.prog 18 #[.pointer (some ⟨c, 0, none⟩), .int .i64 i] w fun e w' => e = .returned (.int .i64 (leftV l i)) ∧ w = w' := by
  cases ht : tOk i
  · have hv : Hid (leftV l i = 0) := by show leftV l i = 0; unfold leftV; rw [ht]; rfl
    go_enter Try.func18, Try.ntmps18
    go_wp2_with (go_at_call 43; refine (right_any _ _).mono ?_; rintro e w' ⟨rfl, rfl⟩)
    go_ret
    exact ⟨ret_int (by rw [hv.out]), rfl⟩
  · obtain ⟨h0, h1⟩ := (tOk_iff i).1 ht
    have hv : Hid (leftV l i = l.getD i.toNat 0) := by show leftV l i = _; unfold leftV; rw [ht]; rfl
    have hc := hC.cell i.toNat (by omega)
    have hq : ∃ x, l.getD i.toNat 0 = x := ⟨_, rfl⟩
    obtain ⟨x, hx⟩ := hq
    rw [hx] at hc
    have hx := Lib.hid hx
    go_enter Try.func18, Try.ntmps18
    go_wp2_with (go_at_call 43; refine (right_any _ _).mono ?_; rintro e w' ⟨rfl, rfl⟩)
    go_ret
    exact ⟨ret_int (by rw [hv.out, hx.out]), rfl⟩

theorem on_nil (i : Int) (w : World) : Calls Try.prog 17 #[.pointer none, .int .i64 i] w fun e w' => e = .returned (.bool false) ∧ w = w' := by
  go_enter Try.func17, Try.ntmps17
  go_wp2_with (go_at_call 18; refine (left_nil _ _).mono ?_; rintro e w' ⟨rfl, rfl⟩)
  go_ret
  exact ⟨rfl, rfl⟩

theorem on_any (c : Nat) (i : Int) (w : World) (l : List Int) (hC : Ck w c l) :
    Calls Try.prog 17 #[.pointer (some ⟨c, 0, none⟩), .int .i64 i] w fun e w' => e = .returned (.bool (decide (0 < leftV l i))) ∧ w = w' := by
  go_enter Try.func17, Try.ntmps17
  go_wp2_with (go_at_call 18; refine (left_any _ _ _ _ hC).mono ?_; rintro e w' ⟨rfl, rfl⟩)
  go_ret
  exact ⟨rfl, rfl⟩

theorem clear_nil (w : World) : Calls Try.prog 28 #[.pointer none] w fun e w' => e = .returned (.tuple #[]) ∧ w = w' := by
  go_enter Try.func28, Try.ntmps28
  go_wp2
  go_end0
  exact ⟨rfl, rfl⟩

theorem list8 {l : List Int} (h : l.length = 8) : ∃ a0 a1 a2 a3 a4 a5 a6 a7, l = [a0, a1, a2, a3, a4, a5, a6, a7] := by
  match l, h with
  | [a0, a1, a2, a3, a4, a5, a6, a7], _ => exact ⟨a0, a1, a2, a3, a4, a5, a6, a7, rfl⟩

theorem clear_any (c : Nat) (w : World) (l : List Int) (hC : Ck w c l) :
    Calls Try.prog 28 #[.pointer (some ⟨c, 0, none⟩)] w fun e w' => e = .returned (.tuple #[]) ∧ Ck w' c [0, 0, 0, 0, 0, 0, 0, 0] ∧ Fr (· = c) w w' := by
  have h0 := hC.cell 0 (by omega)
  have h1 := hC.cell 1 (by omega)
  have h2 := hC.cell 2 (by omega)
  have h3 := hC.cell 3 (by omega)
  have h4 := hC.cell 4 (by omega)
  have h5 := hC.cell 5 (by omega)
  have h6 := hC.cell 6 (by omega)
  have h7 := hC.cell 7 (by omega)
  have hf := hC.frozen
  have hl := Lib.hid hC.2.1
  have hC := Lib.hid hC
  go_enter Try.func28, Try.ntmps28
  go_wp2
  go_end0
  refine ⟨rfl, ?_, ?_⟩
  · obtain ⟨a0, a1, a2, a3, a4, a5, a6, a7, rfl⟩ := list8 hl.out
    exact (((((((hC.out.set 0 0 (by omega)).set 1 0 (by omega)).set 2 0 (by omega)).set 3 0 (by omega)).set 4 0 (by omega)).set 5 0 (by omega)).set 6 0 (by omega)).set 7 0 (by omega)
  · iterate 8 refine Fr.setCell (S := (· = c)) ?_ (.inl rfl) _
    exact Fr.refl _ _

/-- What stopping leaves. -/
def stopL (l : List Int) (xs : List Int) : List Int := xs.foldl (fun l i => if tOk i = true then l.set i.toNat 0 else l) l
theorem stopL_snoc (l xs : List Int) (x : Int) : stopL l (xs ++ [x]) = if tOk x = true then (stopL l xs).set x.toNat 0 else stopL l xs := by simp [stopL]
theorem take_snoc' (xs : List Int) (k : Nat) (h : k < xs.length) : xs.take (k + 1) = xs.take k ++ [xs.getD k 0] := by
  rw [List.take_add_one, List.getD_eq_getElem?_getD, List.getElem?_eq_getElem h]; rfl

theorem stop_nil (b n cap : Nat) (xs : List Int) (w : World) (hl : xs.length = n) (hm : n ≤ 1000) (hx : ∀ j, j < n → w.cell? ⟨b, j, none⟩ = some (.int .i64 (xs.getD j 0))) :
    Calls Try.prog 27 #[.pointer none, .slice (some ⟨b, 0, none⟩) n cap] w fun e w' => e = .returned (.tuple #[]) ∧ w = w' := by
  have HX := Lib.hid hx
  have HL := Lib.hid hl
  clear hx hl
  go_enter Try.func27, Try.ntmps27
  go_wp2
  go_loop [5, 8] (fun _ i => ∃ k : Nat, k ≤ n ∧ i = .int .i64 k) (fun _ i => n - (intOf i).toNat)
  case atStart => exact ⟨0, by omega, rfl⟩
  case round =>
    obtain ⟨k, hk, rfl⟩ := hrel
    by_cases hlt : k < n
    · have hc := HX.out k hlt
      go_wp2
      exact ⟨⟨k + 1, by omega, by go_num⟩, by simp [intOf]; omega⟩
    · go_wp2
      go_end0
      exact ⟨rfl, rfl⟩

theorem stop_any (c : Nat) (b n cap : Nat) (xs : List Int) (w : World) (l : List Int) (hC : Ck w c l) (hl : xs.length = n) (hm : n ≤ 1000) (hbc : b ≠ c) (hx : ∀ j, j < n → w.cell? ⟨b, j, none⟩ = some (.int .i64 (xs.getD j 0))) :
    Calls Try.prog 27 #[.pointer (some ⟨c, 0, none⟩), .slice (some ⟨b, 0, none⟩) n cap] w fun e w' => e = .returned (.tuple #[]) ∧ Ck w' c (stopL l xs) ∧ Fr (· = c) w w' := by
  have HX := Lib.hid hx
  have HL := Lib.hid hl
  clear hx hl
  go_enter Try.func27, Try.ntmps27
  go_wp2
  go_loopw [5, 8] (fun _ i wr => ∃ k : Nat, k ≤ n ∧ i = .int .i64 k ∧ Ck wr c (stopL l (xs.take k)) ∧ Fr (· = c) w wr) (fun _ i _ => n - (intOf i).toNat)
  case atStart => exact ⟨0, by omega, rfl, hC, Fr.refl _ _⟩
  case round =>
    obtain ⟨k, hk, rfl, hCk, hF⟩ := hrel
    by_cases hlt : k < n
    · have hc : wr.cell? ⟨b, k, none⟩ = some (.int .i64 (xs.getD k 0)) := by
        have h := HX.out k hlt
        have := hF.block b (World.block_lt_of_cell? w _ h) hbc
        rw [← h]
        exact World.cell?_of_block (w := w) this
      have hs := take_snoc' xs k (by rw [HL.out]; exact hlt)
      obtain ⟨x, hx⟩ : ∃ x, xs.getD k 0 = x := ⟨_, rfl⟩
      rw [hx] at hs hc
      clear hx
      cases ht : tOk x
      · have hn : Hid (stopL l (xs.take (k + 1)) = stopL l (xs.take k)) := by show stopL _ _ = _; rw [hs, stopL_snoc, ht]; rfl
        have hs := Lib.hid hs
        go_wp2_with (go_at_call 43; refine (right_any _ _).mono ?_; rintro e w' ⟨rfl, rfl⟩)
        exact ⟨⟨k + 1, by omega, by go_num, by rw [hn.out]; exact hCk, hF⟩, by simp [intOf]; omega⟩
      · have hn : Hid (stopL l (xs.take (k + 1)) = (stopL l (xs.take k)).set x.toNat 0) := by show stopL _ _ = _; rw [hs, stopL_snoc, ht]; rfl
        have hs := Lib.hid hs
        obtain ⟨h0, h8⟩ := (tOk_iff x).1 ht
        have hcx := hCk.cell x.toNat (by omega)
        have hfx := hCk.frozen x.toNat
        go_wp2_with (go_at_call 43; refine (right_any _ _).mono ?_; rintro e w' ⟨rfl, rfl⟩)
        exact ⟨⟨k + 1, by omega, by go_num, by rw [hn.out]; exact hCk.set _ _ (by omega), hF.setCell (.inl rfl) _⟩, by simp [intOf]; omega⟩
    · go_wp2
      go_end0
      have hk : xs.take k = xs := List.take_of_length_le (by rw [HL.out]; omega)
      rw [hk] at hCk
      exact ⟨rfl, hCk, hF⟩

/-- The least number of ticks that is left of a timer that runs. -/
def leastF (n k : Int) : Int := if 0 < k ∧ (n = 0 ∨ k < n) then k else n
def leastL (l : List Int) : Int := l.foldl leastF 0
theorem leastL_snoc (l : List Int) (x : Int) : leastL (l ++ [x]) = leastF (leastL l) x := by simp [leastL]

theorem least_nil (w : World) : Calls Try.prog 19 #[.pointer none] w fun e w' => e = .returned (.int .i64 0) ∧ w = w' := by
  go_enter Try.func19, Try.ntmps19
  go_wp2
  go_ret
  exact ⟨rfl, rfl⟩

theorem index8 (a0 a1 a2 a3 a4 a5 a6 a7 x : Int) (k : Nat) (hx : [a0, a1, a2, a3, a4, a5, a6, a7][k]? = some x) :
    ∀ W : World, (Instr.index 23 (.agg #[.int .i64 a0, .int .i64 a1, .int .i64 a2, .int .i64 a3, .int .i64 a4, .int .i64 a5, .int .i64 a6, .int .i64 a7]) (.int .i64 k)).run Try.prog W = .ok (.int .i64 x) W := by
  intro W
  have hlt : k < 8 := by have := (List.getElem?_eq_some_iff.1 hx).1; simpa using this
  have hk8 : k = 0 ∨ k = 1 ∨ k = 2 ∨ k = 3 ∨ k = 4 ∨ k = 5 ∨ k = 6 ∨ k = 7 := by omega
  rcases hk8 with rfl | rfl | rfl | rfl | rfl | rfl | rfl | rfl <;> (simp at hx; subst hx; show _ = _; kernel_rfl)

theorem least_any (c : Nat) (w : World) (l : List Int) (hC : Ck w c l) :
    Calls Try.prog 19 #[.pointer (some ⟨c, 0, none⟩)] w fun e w' => e = .returned (.int .i64 (leastL l)) ∧ w = w' := by
  obtain ⟨a0, a1, a2, a3, a4, a5, a6, a7, rfl⟩ := list8 hC.2.1
  obtain ⟨h0, h1, h2, h3, h4, h5, h6, h7⟩ := (⟨hC.cell 0 (by omega), hC.cell 1 (by omega), hC.cell 2 (by omega), hC.cell 3 (by omega), hC.cell 4 (by omega), hC.cell 5 (by omega), hC.cell 6 (by omega), hC.cell 7 (by omega)⟩ : _ ∧ _ ∧ _ ∧ _ ∧ _ ∧ _ ∧ _ ∧ _)
  simp only [List.getD_cons_zero, List.getD_cons_succ] at h0 h1 h2 h3 h4 h5 h6 h7
  go_enter Try.func19, Try.ntmps19
  go_wp2
  go_loop [3, 5, 13] (fun n _ i => ∃ k : Nat, k ≤ 8 ∧ i = .int .i64 k ∧ n = .int .i64 (leastL (([a0, a1, a2, a3, a4, a5, a6, a7] : List Int).take k))) (fun _ _ i => 8 - (intOf i).toNat)
  case atStart => exact ⟨0, by omega, rfl, rfl⟩
  case round =>
    obtain ⟨k, hk, rfl, rfl⟩ := hrel
    by_cases h8 : k = 8
    · subst h8
      go_wp2
      go_ret
      exact ⟨rfl, rfl⟩
    · obtain ⟨x, hx⟩ : ∃ x, [a0, a1, a2, a3, a4, a5, a6, a7][k]? = some x := ⟨_, List.getElem?_eq_getElem (by simp; omega)⟩
      have hi := index8 a0 a1 a2 a3 a4 a5 a6 a7 x k hx
      have hs : Hid (leastL (([a0, a1, a2, a3, a4, a5, a6, a7] : List Int).take (k + 1)) = leastF (leastL (([a0, a1, a2, a3, a4, a5, a6, a7] : List Int).take k)) x) := by
        show leastL _ = _
        rw [List.take_add_one, hx]; exact leastL_snoc _ _
      have hx := Lib.hid hx
      have hlt : decide ((k : Int) < 8) = true := by simp; omega
      obtain ⟨m, hm⟩ : ∃ m, leastL (([a0, a1, a2, a3, a4, a5, a6, a7] : List Int).take k) = m := ⟨_, rfl⟩
      rw [hm]
      have hs : Hid (leastL (([a0, a1, a2, a3, a4, a5, a6, a7] : List Int).take (k + 1)) = leastF m x) := by show _ = _; rw [hs.out, hm]
      clear hm
      rcases (by omega : ¬ 0 < x ∨ (0 < x ∧ m = 0) ∨ (0 < x ∧ m ≠ 0 ∧ x < m) ∨ (0 < x ∧ m ≠ 0 ∧ ¬ x < m)) with g | ⟨g, g1⟩ | ⟨g, g1, g2⟩ | ⟨g, g1, g2⟩
      · have hv : Hid (leastF m x = m) := by show leastF m x = m; unfold leastF; rw [if_neg (by omega)]
        go_wp2
        exact ⟨⟨k + 1, by omega, by go_num, by rw [hs.out, hv.out]⟩, by simp [intOf]; omega⟩
      · have hv : Hid (leastF m x = x) := by show leastF m x = x; unfold leastF; rw [if_pos (by omega)]
        have g2 : (m == 0) = true := by simp [g1]
        clear g1
        go_wp2
        exact ⟨⟨k + 1, by omega, by go_num, by rw [hs.out, hv.out]⟩, by simp [intOf]; omega⟩
      · have hv : Hid (leastF m x = x) := by show leastF m x = x; unfold leastF; rw [if_pos (by omega)]
        have g3 : (m == 0) = false := by simp [g1]
        clear g1
        go_wp2
        exact ⟨⟨k + 1, by omega, by go_num, by rw [hs.out, hv.out]⟩, by simp [intOf]; omega⟩
      · have hv : Hid (leastF m x = m) := by show leastF m x = m; unfold leastF; rw [if_neg (by omega)]
        have g3 : (m == 0) = false := by simp [g1]
        clear g1
        go_wp2
        exact ⟨⟨k + 1, by omega, by go_num, by rw [hs.out, hv.out]⟩, by simp [intOf]; omega⟩

/-- One tick: what is left then; which timers run out. -/
def dec1 (n : Int) : Int := if 0 < n then n - 1 else n
def tickL (l : List Int) : List Int := l.map dec1
def tickP (l : List Int) (k : Nat) : List Int := (l.take k).map dec1 ++ l.drop k
def tickO (l : List Int) (k : Nat) : List Int := ((List.range k).filter fun i => l.getD i 0 == 1).map Int.ofNat
theorem tickP_length (l : List Int) (k : Nat) : (tickP l k).length = l.length := by simp [tickP]; omega
theorem tickP_at (l : List Int) (k : Nat) (hk : k < l.length) : (tickP l k).getD k 0 = l.getD k 0 := by
  unfold tickP
  rw [List.getD_eq_getElem?_getD, List.getElem?_append_right (by simp; omega)]
  simp [List.getD_eq_getElem?_getD, Nat.min_eq_left (Nat.le_of_lt hk)]
theorem tickP_succ (l : List Int) (k : Nat) (hk : k < l.length) : tickP l (k + 1) = (tickP l k).set k (dec1 (l.getD k 0)) := by
  unfold tickP
  have e1 : l.take (k + 1) = l.take k ++ [l[k]] := by rw [List.take_add_one, List.getElem?_eq_getElem hk]; rfl
  have e2 : l.drop k = l[k] :: l.drop (k + 1) := List.drop_eq_getElem_cons hk
  have e3 : l.getD k 0 = l[k] := by simp [List.getD_eq_getElem?_getD, hk]
  have hl : ((l.take k).map dec1).length = k := by simp; omega
  rw [e1, e3, List.map_append, List.append_assoc, List.set_append_right _ _ (by omega), hl, Nat.sub_self, e2]
  rfl
theorem tickP_same (l : List Int) (k : Nat) (hk : k < l.length) (h : dec1 (l.getD k 0) = l.getD k 0) : tickP l (k + 1) = tickP l k := by
  rw [tickP_succ l k hk, h, ← tickP_at l k hk]
  have : k < (tickP l k).length := by rw [tickP_length]; exact hk
  rw [List.getD_eq_getElem?_getD, List.getElem?_eq_getElem this]
  simp
theorem tickO_yes (l : List Int) (k : Nat) (h : l.getD k 0 = 1) : tickO l (k + 1) = tickO l k ++ [(k : Int)] := by
  have e : (l.getD k 0 == 1) = true := by rw [h]; rfl
  unfold tickO
  rw [List.range_succ, List.filter_append, List.filter_cons_of_pos (by exact e), List.filter_nil, List.map_append]
  rfl
theorem tickO_no (l : List Int) (k : Nat) (h : l.getD k 0 ≠ 1) : tickO l (k + 1) = tickO l k := by
  have e : ¬ (l.getD k 0 == 1) = true := by rw [beq_iff_eq]; exact h
  unfold tickO
  rw [List.range_succ, List.filter_append, List.filter_cons_of_neg (by exact e), List.filter_nil, List.append_nil]
theorem tickO_length (l : List Int) (k : Nat) : (tickO l k).length ≤ k := by
  unfold tickO; rw [List.length_map]; have := List.length_filter_le (fun i => l.getD i 0 == 1) (List.range k); rw [List.length_range] at this; exact this

theorem own_nil' (w : World) (base : Nat) (e : TypeId) (size : Nat) : w.ownsRow base e size (.slice none 0 0) 0 [] := ⟨by simp, .inl ⟨rfl, rfl⟩⟩
theorem own_base {w : World} {base : Nat} {e : TypeId} {size n : Nat} {v : Value} {xs : List Value} (h : w.ownsRow base e size v n xs) (k : Nat) (hk : v.ownBlock = some k) : base ≤ k := by
  rcases h.2 with ⟨rfl, _⟩ | ⟨g, cap, cur, rfl, hb, _⟩
  · simp [Value.ownBlock] at hk
  · have : g = k := by simpa [Value.ownBlock] using hk
    omega
theorem info3 : (Try.prog.info? 3).map (fun i => (i.zero, i.size, i.bytes)) = some (some (.int .i64 0), 1, 8) := by kernel_rfl

theorem tick_nil (w : World) : Calls Try.prog 25 #[.pointer none] w fun e w' => e = .returned (.slice none 0 0) ∧ w = w' := by
  go_enter Try.func25, Try.ntmps25
  go_wp2
  go_ret
  exact ⟨rfl, rfl⟩

set_option maxHeartbeats 1000000 in
theorem tick_any (c : Nat) (w : World) (l : List Int) (hC : Ck w c l) :
    Calls Try.prog 25 #[.pointer (some ⟨c, 0, none⟩)] w fun e w' => ∃ v, e = .returned v ∧ w'.ownsRow w.heap.size 3 1 v (tickO l 8).length ((tickO l 8).map (Value.int .i64)) ∧ Ck w' c (tickL l) ∧ Fr (· = c) w w' := by
  have hlen := hC.2.1
  obtain ⟨a0, a1, a2, a3, a4, a5, a6, a7, hl⟩ := list8 hC.2.1
  have hcl := hC.lt
  obtain ⟨h0, h1, h2, h3, h4, h5, h6, h7⟩ := (⟨hC.cell 0 (by omega), hC.cell 1 (by omega), hC.cell 2 (by omega), hC.cell 3 (by omega), hC.cell 4 (by omega), hC.cell 5 (by omega), hC.cell 6 (by omega), hC.cell 7 (by omega)⟩ : _ ∧ _ ∧ _ ∧ _ ∧ _ ∧ _ ∧ _ ∧ _)
  rw [hl] at h0 h1 h2 h3 h4 h5 h6 h7
  simp only [List.getD_cons_zero, List.getD_cons_succ] at h0 h1 h2 h3 h4 h5 h6 h7
  have hl := Lib.hid hl
  have hlen := Lib.hid hlen
  obtain ⟨i0, hi, hz0, hz1, hz2⟩ := info_parts info3
  have hi := Lib.hid hi
  have hz0 := Lib.hid hz0
  have hz1 := Lib.hid hz1
  have hz2 := Lib.hid hz2
  go_enter Try.func25, Try.ntmps25
  go_wp2
  go_loopw [3, 4, 5, 13] (fun v _ _ i wr => ∃ k : Nat, k ≤ 8 ∧ i = .int .i64 k ∧ wr.ownsRow w.heap.size 3 1 v (tickO l k).length ((tickO l k).map (Value.int .i64)) ∧ Ck wr c (tickP l k) ∧ Fr (· = c) w wr) (fun _ _ _ i _ => 8 - (intOf i).toNat)
  case atStart => exact ⟨0, by omega, rfl, own_nil' w w.heap.size 3 1, by unfold tickP; simpa using hC, Fr.refl _ _⟩
  case round =>
    obtain ⟨k, hk, rfl, hO, hK, hF⟩ := hrel
    by_cases h8 : k = 8
    · subst h8
      have hT : tickP l 8 = tickL l := by
        unfold tickP tickL; rw [List.take_of_length_le (by rw [hlen.out]; exact Nat.le_refl _), List.drop_of_length_le (by rw [hlen.out]; exact Nat.le_refl _)]; simp
      rw [hT] at hK
      clear hT
      go_wp2
      go_ret
      exact ⟨_, rfl, hO, hK, hF⟩
    · have hk8 : k < 8 := by omega
      obtain ⟨x, hx⟩ : ∃ x, [a0, a1, a2, a3, a4, a5, a6, a7][k]? = some x := ⟨_, List.getElem?_eq_getElem (by simp; omega)⟩
      have hix := index8 a0 a1 a2 a3 a4 a5 a6 a7 x k hx
      have hxl : Hid (l.getD k 0 = x) := by show l.getD k 0 = x; rw [hl.out, List.getD_eq_getElem?_getD, hx]; rfl
      have hkl : k < l.length := by rw [hlen.out]; exact hk8
      clear hx
      have hlt : decide ((k : Int) < 8) = true := by simp; omega
      have hck : wr.cell? ⟨c, k, none⟩ = some (.int .i64 x) := by
        rw [hK.cell k hk8, tickP_at l k hkl, hxl.out]
      have hfk := hK.frozen k
      have hxb : 0 ≤ x ∧ x ≤ 4294967296 := by have := hK.bd k; rw [tickP_at l k hkl, hxl.out] at this; exact this
      by_cases g : 0 < x
      · have hs : Hid (tickP l (k + 1) = (tickP l k).set k (x - 1)) := by
          show _ = _; rw [tickP_succ l k hkl, hxl.out]; congr 1; unfold dec1; rw [if_pos g]
        by_cases g1 : x = 1
        · have ho : Hid (tickO l (k + 1) = tickO l k ++ [(k : Int)]) := tickO_yes l k (by rw [hxl.out, g1])
          subst g1
          go_upto_region 8 with fail
          go_region
          have hK2 : Ck ((wr.setCell ⟨c, k, none⟩ (.int .i64 0)).drew) c (tickP l (k + 1)) := by rw [hs.out]; exact hK.set k 0 (by omega)
          have hF2 : Fr (· = c) w ((wr.setCell ⟨c, k, none⟩ (.int .i64 0)).drew) := (Fr.setCell (S := (· = c)) hF (p := ⟨c, k, none⟩) (.inl rfl) _).drew
          have hO2 : ((wr.setCell ⟨c, k, none⟩ (.int .i64 0)).drew).ownsRow w.heap.size 3 1 u3 (tickO l k).length ((tickO l k).map (Value.int .i64)) := ownsRow_setCell_below hO (a := ⟨c, k, none⟩) hcl _
          generalize (wr.setCell ⟨c, k, none⟩ (.int .i64 0)).drew = w2 at *
          clear hK hF hO hck hfk
          have hlk := tickO_length l k
          go_wp2_with (at_builtin; refine wpList_append_own _ rfl _ _ 38 rfl w.heap.size 3 i0 (.int .i64 0) 1 8 Try.underlying38 hi.out hz0.out hz1.out hz2.out rfl (by decide) _ _ _ rfl (hO2.alloc _) ⟨w2.heap.size, 0, none⟩ 1 1 [.int .i64 k] rfl rfl (cell_one_new _ _ _) (by simp [Value.oneCell']) (by unfold maxLen; omega) (by omega) (by have := hF2.size; simp; omega) ?_; intro v' w3 hown' hgrow _)
          have hF3 : Fr (fun r => w.heap.size ≤ r) w2 w3 := ((Fr.refl _ w2).alloc _).grown hgrow (fun r hr => .inl (own_base hO2 r hr))
          refine ⟨⟨k + 1, by omega, by go_num, ?_, hK2.fr hF3 (by omega), hF2.trans hF3 (fun i h1 h2 => by omega)⟩, by simp [intOf]; omega⟩
          rw [ho.out]
          simpa using hown'
        · have g2 : (x == 1) = false := by simp [g1]
          have ho : Hid (tickO l (k + 1) = tickO l k) := tickO_no l k (by rw [hxl.out]; exact g1)
          clear g1
          go_upto_region 8 with fail
          go_region
          have hK2 : Ck ((wr.setCell ⟨c, k, none⟩ (.int .i64 (x - 1))).drew) c (tickP l (k + 1)) := by rw [hs.out]; exact hK.set k _ (by omega)
          have hF2 : Fr (· = c) w ((wr.setCell ⟨c, k, none⟩ (.int .i64 (x - 1))).drew) := (Fr.setCell (S := (· = c)) hF (p := ⟨c, k, none⟩) (.inl rfl) _).drew
          have hO2 : ((wr.setCell ⟨c, k, none⟩ (.int .i64 (x - 1))).drew).ownsRow w.heap.size 3 1 u3 (tickO l k).length ((tickO l k).map (Value.int .i64)) := ownsRow_setCell_below hO (a := ⟨c, k, none⟩) hcl _
          go_wp2
          exact ⟨⟨k + 1, by omega, by go_num, by rw [ho.out]; exact hO2, hK2, hF2⟩, by simp [intOf]; omega⟩
      · have g2 : (x == 1) = false := by simp; omega
        have ho : Hid (tickO l (k + 1) = tickO l k) := tickO_no l k (by rw [hxl.out]; omega)
        have hs : Hid (tickP l (k + 1) = tickP l k) := tickP_same l k hkl (by rw [hxl.out]; unfold dec1; rw [if_neg g])
        go_wp2
        exact ⟨⟨k + 1, by omega, by go_num, by rw [ho.out]; exact hO, by rw [hs.out]; exact hK, hF⟩, by simp [intOf]; omega⟩
end Go.Proofs.Ytpalpoecakijnaa
