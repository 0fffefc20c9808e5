/-
  Units: are two one?
-/
import Derived.Laws.IdiomStrings
import Derived.Test.YtpgalefpccgpfaaUnitL
namespace Go.Proofs.Ytpgalefpccgpfaa
open Go.RowKit
set_option linter.unusedVariables false
set_option linter.unusedSimpArgs false

/-- Octets in a row. -/
def Row (w : World) (a : Option Addr) (len : Nat) (zs : List Int) : Prop :=
  zs.length = len ∧ (∀ z ∈ zs, 0 ≤ z ∧ z < 256) ∧ ∀ i, i < len → ∃ x, a = some x ∧ w.cell? (x.add i) = some (.int .u8 (zs.getD i 0))
theorem Row.below {w w' : World} {a : Option Addr} {len : Nat} {zs : List Int} (h : Row w a len zs) (hb : Below w.heap.size w w') : Row w' a len zs :=
  ⟨h.1, h.2.1, fun i hi => by
    obtain ⟨x, e, hc⟩ := h.2.2 i hi
    exact ⟨x, e, by rw [← hc]; exact hb.cell (World.block_lt_of_cell? _ _ hc)⟩⟩
theorem Row.rowv {w : World} {a : Option Addr} {len : Nat} {zs : List Int} (h : Row w a len zs) (h0 : 0 < len) : Rowv w a len (zs.map (.int .u8)) := by
  obtain ⟨x, hx, -⟩ := h.2.2 0 h0
  refine ⟨by simpa using h.1, ?_, .inr ⟨x, hx, h0, fun j u hj => ?_⟩⟩
  · intro u hu
    obtain ⟨n, -, rfl⟩ := List.mem_map.1 hu
    rfl
  · rw [List.getElem?_map, Option.map_eq_some_iff] at hj
    obtain ⟨n, hn, rfl⟩ := hj
    obtain ⟨y, hy, hc⟩ := h.2.2 j (by have := (List.getElem?_eq_some_iff.1 hn).1; have := h.1; omega)
    rw [hx] at hy
    cases hy
    rw [hc, List.getD, hn]
    rfl

theorem take_snoc (xs : List Int) (k : Nat) (h : k < xs.length) : xs.take (k + 1) = xs.take k ++ [xs.getD k 0] := by
  rw [List.take_add_one, List.getD_eq_getElem?_getD, List.getElem?_eq_getElem h]; rfl

theorem equal_apart (a a' : Option Addr) (len cap len' cap' : Nat) (w : World) (h : len ≠ len') : Calls Try.prog 22 #[.slice a len cap, .slice a' len' cap'] w fun e w' => e = .returned (.bool false) ∧ Below w.heap.size w w' := by
  have h1 : ((len : Int) == (len' : Int)) = false := by simp; omega
  have h2 : ((len : Int) != (len' : Int)) = true := by simp; omega
  go_enter Try.func22, Try.ntmps22
  go_wp2
  go_ret
  exact ⟨rfl, Below.refl _ _⟩

theorem equal_len (a a' : Option Addr) (len cap cap' : Nat) (zs zs' : List Int) (w : World) (hm : len ≤ 1000) (hr : Row w a len zs) (hr' : Row w a' len zs') : Calls Try.prog 22 #[.slice a len cap, .slice a' len cap'] w fun e w' => e = .returned (.bool (decide (zs = zs'))) ∧ Below w.heap.size w w' := by
  have HR := Lib.hid hr
  have HR' := Lib.hid hr'
  clear hr hr'
  go_enter Try.func22, Try.ntmps22
  go_wp2
  go_loopw [5, 13] (fun _ i wr => ∃ k : Nat, k ≤ len ∧ i = .int .i64 k ∧ zs.take k = zs'.take k ∧ Below w.heap.size w wr) (fun _ i _ => len - (intOf i).toNat)
  case atStart => exact ⟨0, by omega, rfl, rfl, Below.refl _ _⟩
  case round =>
    obtain ⟨k, hk, rfl, ht, hB⟩ := hrel
    by_cases hlt : k < len
    · obtain ⟨x, rfl, hc⟩ := (HR.out.below hB).2.2 k hlt
      obtain ⟨x', rfl, hc'⟩ := (HR'.out.below hB).2.2 k hlt
      have hs := take_snoc zs k (by rw [HR.out.1]; exact hlt)
      have hs' := take_snoc zs' k (by rw [HR'.out.1]; exact hlt)
      obtain ⟨y, hy⟩ : ∃ y, zs.getD k 0 = y := ⟨_, rfl⟩
      obtain ⟨y', hy'⟩ : ∃ y, zs'.getD k 0 = y := ⟨_, rfl⟩
      rw [hy] at hc hs
      rw [hy'] at hc' hs'
      clear hy hy'
      have HS := Lib.hid hs
      have HS' := Lib.hid hs'
      have HT := Lib.hid ht
      clear hs hs' ht
      by_cases e : y = y'
      · subst e
        go_upto_region 6 with fail
        go_region
        all_goals try go_wp2
        all_goals exact ⟨⟨k + 1, by omega, by go_num, by rw [HS.out, HS'.out, HT.out], below_drewN hB 1⟩, by simp [intOf]; omega⟩
      · have e1 : (y == y') = false := by simp [e]
        have e2 : (y != y') = true := by simp [e]
        go_upto_region 6 with fail
        go_region
        all_goals try go_wp2
        all_goals go_ret
        all_goals refine ⟨ret_bool ?_, below_drewN hB 1⟩
        symm
        rw [decide_eq_false_iff_not]
        rintro rfl
        have := HS.out.symm.trans HS'.out
        simp at this
        exact e this
    · have hkl : k = len := by omega
      have hall : zs = zs' := by
        rw [hkl, List.take_of_length_le (by rw [HR.out.1]; exact Nat.le_refl _), List.take_of_length_le (by rw [HR'.out.1]; exact Nat.le_refl _)] at ht
        exact ht
      have hd : decide (zs = zs') = true := by simpa using hall
      go_wp2
      go_ret
      exact ⟨ret_bool hd.symm, hB⟩

theorem equal_is (a a' : Option Addr) (len cap len' cap' : Nat) (zs zs' : List Int) (w : World) (hm : len ≤ 1000) (hr : Row w a len zs) (hr' : Row w a' len' zs') : Calls Try.prog 22 #[.slice a len cap, .slice a' len' cap'] w fun e w' => e = .returned (.bool (decide (zs = zs'))) ∧ Below w.heap.size w w' := by
  by_cases h : len = len'
  · subst h
    exact equal_len a a' len cap cap' zs zs' w hm hr hr'
  · refine (equal_apart a a' len cap len' cap' w h).mono ?_
    rintro e w' ⟨rfl, hB⟩
    refine ⟨ret_bool ?_, hB⟩
    symm
    rw [decide_eq_false_iff_not]
    rintro rfl
    exact h (hr.1.symm.trans hr'.1)

/-- A row as a string. -/
theorem Row.str {w : World} {a : Option Addr} {len cap : Nat} {zs : List Int} (h : Row w a len zs) : (convert 22 9 (.slice a len cap)).run Try.prog w = .ok (.string (strOfNums zs)) w := by
  by_cases h0 : len = 0
  · subst h0
    obtain rfl := List.eq_nil_of_length_eq_zero h.1
    cases a with
    | none => exact run_convert_bytes_nil w 22 5 Try.underlying22 Try.underlying5 0 cap 9 Try.underlying9
    | some x => exact run_convert_bytes_back w 22 9 5 x cap [] Try.underlying22 Try.underlying5 Try.underlying9 (fun j hj => absurd hj (by simp))
  · obtain ⟨x, rfl, -⟩ := h.2.2 0 (by omega)
    have hl : (zs.map fun n => UInt8.ofNat n.toNat).length = len := by simpa using h.1
    have := run_convert_bytes_back w 22 9 5 x cap (zs.map fun n => UInt8.ofNat n.toNat) Try.underlying22 Try.underlying5 Try.underlying9 (fun j hj => by
      obtain ⟨y, hy, hc⟩ := h.2.2 j (by omega)
      cases hy
      have hz := h.1
      have hj2 : j < zs.length := by omega
      have hb := h.2.1 _ (List.getElem_mem hj2)
      rw [hc, List.getD_eq_getElem?_getD, List.getElem?_eq_getElem hj2]
      simp only [List.getElem_map, Option.getD_some, UInt8.toNat_ofNat', Nat.reducePow]
      congr 2
      omega)
    rw [hl] at this
    exact this
theorem strOfNums_inj {xs ys : List Int} (hx : ∀ z ∈ xs, 0 ≤ z ∧ z < 256) (hy : ∀ z ∈ ys, 0 ≤ z ∧ z < 256) (h : strOfNums xs = strOfNums ys) : xs = ys := by
  have h1 : (strOfNums xs).data.toList = (strOfNums ys).data.toList := by rw [h]
  rw [strOfNums_data, strOfNums_data] at h1
  clear h
  induction xs generalizing ys with
  | nil => cases ys with
    | nil => rfl
    | cons y ys => simp at h1
  | cons x xs ih => cases ys with
    | nil => simp at h1
    | cons y ys =>
      simp only [List.map_cons, List.cons.injEq] at h1
      have hx0 := hx x (by simp)
      have hy0 := hy y (by simp)
      have h2 := congrArg UInt8.toNat h1.1
      simp only [UInt8.toNat_ofNat', Nat.reducePow] at h2
      rw [ih (fun z hz => hx z (by simp [hz])) (fun z hz => hy z (by simp [hz])) h1.2]
      congr 1
      omega

/-- Are two units one? -/
def sameV (b f : Int) (bi fi : Bool) (k s : Int) (wd : Bool) (zs : List Int) (b' f' : Int) (bi' fi' : Bool) (k' s' : Int) (wd' : Bool) (zs' : List Int) : Bool :=
  decide (b = b' ∧ f = f' ∧ bi = bi' ∧ fi = fi' ∧ k = k' ∧ s = s' ∧ wd = wd' ∧ zs = zs')
theorem rsame_0 (b : Int) (f : Int) (bi : Bool) (fi : Bool) (k : Int) (s : Int) (wd : Bool) (b' : Int) (f' : Int) (bi' : Bool) (fi' : Bool) (k' : Int) (s' : Int) (wd' : Bool) (a : Option Addr) (len cap : Nat) (a' : Option Addr) (len' cap' : Nat) (w : World) (h : b ≠ b') : Calls Try.prog 14 #[.agg #[.int .u8 b, .int .u8 f, .bool bi, .bool fi, .int .u8 k, .int .u8 s, .bool wd, .slice a len cap], .agg #[.int .u8 b', .int .u8 f', .bool bi', .bool fi', .int .u8 k', .int .u8 s', .bool wd', .slice a' len' cap']] w fun e w' => e = .returned (.bool false) ∧ Below w.heap.size w w' := by
  have h0 : (b == b') = false := by simp [h]
  have hA : Below w.heap.size w (w.alloc (.cells #[.int .u8 b, .int .u8 f, .bool bi, .bool fi, .int .u8 k, .int .u8 s, .bool wd, .slice a len cap] 24)) := (Below.refl _ _).alloc (Nat.le_refl _) _
  have hA2 := hA.alloc (by simp) (.cells #[.int .u8 b', .int .u8 f', .bool bi', .bool fi', .int .u8 k', .int .u8 s', .bool wd', .slice a' len' cap'] 24)
  go_enter Try.func14, Try.ntmps14
  go_wp2
  go_ret
  exact ⟨rfl, hA2⟩
theorem rsame_1 (b : Int) (f : Int) (bi : Bool) (fi : Bool) (k : Int) (s : Int) (wd : Bool) (f' : Int) (bi' : Bool) (fi' : Bool) (k' : Int) (s' : Int) (wd' : Bool) (a : Option Addr) (len cap : Nat) (a' : Option Addr) (len' cap' : Nat) (w : World) (h : f ≠ f') : Calls Try.prog 14 #[.agg #[.int .u8 b, .int .u8 f, .bool bi, .bool fi, .int .u8 k, .int .u8 s, .bool wd, .slice a len cap], .agg #[.int .u8 b, .int .u8 f', .bool bi', .bool fi', .int .u8 k', .int .u8 s', .bool wd', .slice a' len' cap']] w fun e w' => e = .returned (.bool false) ∧ Below w.heap.size w w' := by
  have h0 : (f == f') = false := by simp [h]
  have hA : Below w.heap.size w (w.alloc (.cells #[.int .u8 b, .int .u8 f, .bool bi, .bool fi, .int .u8 k, .int .u8 s, .bool wd, .slice a len cap] 24)) := (Below.refl _ _).alloc (Nat.le_refl _) _
  have hA2 := hA.alloc (by simp) (.cells #[.int .u8 b, .int .u8 f', .bool bi', .bool fi', .int .u8 k', .int .u8 s', .bool wd', .slice a' len' cap'] 24)
  go_enter Try.func14, Try.ntmps14
  go_wp2
  go_ret
  exact ⟨rfl, hA2⟩
theorem rsame_2 (b : Int) (f : Int) (bi : Bool) (fi : Bool) (k : Int) (s : Int) (wd : Bool) (fi' : Bool) (k' : Int) (s' : Int) (wd' : Bool) (a : Option Addr) (len cap : Nat) (a' : Option Addr) (len' cap' : Nat) (w : World) : Calls Try.prog 14 #[.agg #[.int .u8 b, .int .u8 f, .bool bi, .bool fi, .int .u8 k, .int .u8 s, .bool wd, .slice a len cap], .agg #[.int .u8 b, .int .u8 f, .bool (!bi), .bool fi', .int .u8 k', .int .u8 s', .bool wd', .slice a' len' cap']] w fun e w' => e = .returned (.bool false) ∧ Below w.heap.size w w' := by
  have h0 : (bi == !bi) = false := by cases bi <;> rfl
  have hA : Below w.heap.size w (w.alloc (.cells #[.int .u8 b, .int .u8 f, .bool bi, .bool fi, .int .u8 k, .int .u8 s, .bool wd, .slice a len cap] 24)) := (Below.refl _ _).alloc (Nat.le_refl _) _
  have hA2 := hA.alloc (by simp) (.cells #[.int .u8 b, .int .u8 f, .bool (!bi), .bool fi', .int .u8 k', .int .u8 s', .bool wd', .slice a' len' cap'] 24)
  go_enter Try.func14, Try.ntmps14
  go_wp2
  go_ret
  exact ⟨rfl, hA2⟩
theorem rsame_3 (b : Int) (f : Int) (bi : Bool) (fi : Bool) (k : Int) (s : Int) (wd : Bool) (k' : Int) (s' : Int) (wd' : Bool) (a : Option Addr) (len cap : Nat) (a' : Option Addr) (len' cap' : Nat) (w : World) : Calls Try.prog 14 #[.agg #[.int .u8 b, .int .u8 f, .bool bi, .bool fi, .int .u8 k, .int .u8 s, .bool wd, .slice a len cap], .agg #[.int .u8 b, .int .u8 f, .bool bi, .bool (!fi), .int .u8 k', .int .u8 s', .bool wd', .slice a' len' cap']] w fun e w' => e = .returned (.bool false) ∧ Below w.heap.size w w' := by
  have h0 : (fi == !fi) = false := by cases fi <;> rfl
  have hA : Below w.heap.size w (w.alloc (.cells #[.int .u8 b, .int .u8 f, .bool bi, .bool fi, .int .u8 k, .int .u8 s, .bool wd, .slice a len cap] 24)) := (Below.refl _ _).alloc (Nat.le_refl _) _
  have hA2 := hA.alloc (by simp) (.cells #[.int .u8 b, .int .u8 f, .bool bi, .bool (!fi), .int .u8 k', .int .u8 s', .bool wd', .slice a' len' cap'] 24)
  go_enter Try.func14, Try.ntmps14
  go_wp2
  go_ret
  exact ⟨rfl, hA2⟩
theorem rsame_4 (b : Int) (f : Int) (bi : Bool) (fi : Bool) (k : Int) (s : Int) (wd : Bool) (k' : Int) (s' : Int) (wd' : Bool) (a : Option Addr) (len cap : Nat) (a' : Option Addr) (len' cap' : Nat) (w : World) (h : k ≠ k') : Calls Try.prog 14 #[.agg #[.int .u8 b, .int .u8 f, .bool bi, .bool fi, .int .u8 k, .int .u8 s, .bool wd, .slice a len cap], .agg #[.int .u8 b, .int .u8 f, .bool bi, .bool fi, .int .u8 k', .int .u8 s', .bool wd', .slice a' len' cap']] w fun e w' => e = .returned (.bool false) ∧ Below w.heap.size w w' := by
  have h0 : (k == k') = false := by simp [h]
  have hA : Below w.heap.size w (w.alloc (.cells #[.int .u8 b, .int .u8 f, .bool bi, .bool fi, .int .u8 k, .int .u8 s, .bool wd, .slice a len cap] 24)) := (Below.refl _ _).alloc (Nat.le_refl _) _
  have hA2 := hA.alloc (by simp) (.cells #[.int .u8 b, .int .u8 f, .bool bi, .bool fi, .int .u8 k', .int .u8 s', .bool wd', .slice a' len' cap'] 24)
  go_enter Try.func14, Try.ntmps14
  go_wp2
  go_ret
  exact ⟨rfl, hA2⟩
theorem rsame_5 (b : Int) (f : Int) (bi : Bool) (fi : Bool) (k : Int) (s : Int) (wd : Bool) (s' : Int) (wd' : Bool) (a : Option Addr) (len cap : Nat) (a' : Option Addr) (len' cap' : Nat) (w : World) (h : s ≠ s') : Calls Try.prog 14 #[.agg #[.int .u8 b, .int .u8 f, .bool bi, .bool fi, .int .u8 k, .int .u8 s, .bool wd, .slice a len cap], .agg #[.int .u8 b, .int .u8 f, .bool bi, .bool fi, .int .u8 k, .int .u8 s', .bool wd', .slice a' len' cap']] w fun e w' => e = .returned (.bool false) ∧ Below w.heap.size w w' := by
  have h0 : (s == s') = false := by simp [h]
  have hA : Below w.heap.size w (w.alloc (.cells #[.int .u8 b, .int .u8 f, .bool bi, .bool fi, .int .u8 k, .int .u8 s, .bool wd, .slice a len cap] 24)) := (Below.refl _ _).alloc (Nat.le_refl _) _
  have hA2 := hA.alloc (by simp) (.cells #[.int .u8 b, .int .u8 f, .bool bi, .bool fi, .int .u8 k, .int .u8 s', .bool wd', .slice a' len' cap'] 24)
  go_enter Try.func14, Try.ntmps14
  go_wp2
  go_ret
  exact ⟨rfl, hA2⟩
theorem rsame_6 (b : Int) (f : Int) (bi : Bool) (fi : Bool) (k : Int) (s : Int) (wd : Bool)  (a : Option Addr) (len cap : Nat) (a' : Option Addr) (len' cap' : Nat) (w : World) : Calls Try.prog 14 #[.agg #[.int .u8 b, .int .u8 f, .bool bi, .bool fi, .int .u8 k, .int .u8 s, .bool wd, .slice a len cap], .agg #[.int .u8 b, .int .u8 f, .bool bi, .bool fi, .int .u8 k, .int .u8 s, .bool (!wd), .slice a' len' cap']] w fun e w' => e = .returned (.bool false) ∧ Below w.heap.size w w' := by
  have h0 : (wd == !wd) = false := by cases wd <;> rfl
  have hA : Below w.heap.size w (w.alloc (.cells #[.int .u8 b, .int .u8 f, .bool bi, .bool fi, .int .u8 k, .int .u8 s, .bool wd, .slice a len cap] 24)) := (Below.refl _ _).alloc (Nat.le_refl _) _
  have hA2 := hA.alloc (by simp) (.cells #[.int .u8 b, .int .u8 f, .bool bi, .bool fi, .int .u8 k, .int .u8 s, .bool (!wd), .slice a' len' cap'] 24)
  go_enter Try.func14, Try.ntmps14
  go_wp2
  go_ret
  exact ⟨rfl, hA2⟩
theorem usame_0 (b : Int) (f : Int) (bi : Bool) (fi : Bool) (k : Int) (s : Int) (wd : Bool) (b' : Int) (f' : Int) (bi' : Bool) (fi' : Bool) (k' : Int) (s' : Int) (wd' : Bool) (a : Option Addr) (len cap : Nat) (a' : Option Addr) (len' cap' : Nat) (w : World) (h : b ≠ b') : Calls Try.prog 13 #[.agg #[.int .u8 b, .int .u8 f, .bool bi, .bool fi, .int .u8 k, .int .u8 s, .bool wd, .slice a len cap], .agg #[.int .u8 b', .int .u8 f', .bool bi', .bool fi', .int .u8 k', .int .u8 s', .bool wd', .slice a' len' cap']] w fun e w' => e = .returned (.bool false) ∧ Below w.heap.size w w' := by
  have h0 : (b == b') = false := by simp [h]
  have hA : Below w.heap.size w (w.alloc (.cells #[.int .u8 b, .int .u8 f, .bool bi, .bool fi, .int .u8 k, .int .u8 s, .bool wd, .slice a len cap] 24)) := (Below.refl _ _).alloc (Nat.le_refl _) _
  have hA2 := hA.alloc (by simp) (.cells #[.int .u8 b', .int .u8 f', .bool bi', .bool fi', .int .u8 k', .int .u8 s', .bool wd', .slice a' len' cap'] 24)
  go_enter Try.func13, Try.ntmps13
  go_wp2
  go_ret
  exact ⟨rfl, hA2⟩
theorem usame_1 (b : Int) (f : Int) (bi : Bool) (fi : Bool) (k : Int) (s : Int) (wd : Bool) (f' : Int) (bi' : Bool) (fi' : Bool) (k' : Int) (s' : Int) (wd' : Bool) (a : Option Addr) (len cap : Nat) (a' : Option Addr) (len' cap' : Nat) (w : World) (h : f ≠ f') : Calls Try.prog 13 #[.agg #[.int .u8 b, .int .u8 f, .bool bi, .bool fi, .int .u8 k, .int .u8 s, .bool wd, .slice a len cap], .agg #[.int .u8 b, .int .u8 f', .bool bi', .bool fi', .int .u8 k', .int .u8 s', .bool wd', .slice a' len' cap']] w fun e w' => e = .returned (.bool false) ∧ Below w.heap.size w w' := by
  have h0 : (f == f') = false := by simp [h]
  have hA : Below w.heap.size w (w.alloc (.cells #[.int .u8 b, .int .u8 f, .bool bi, .bool fi, .int .u8 k, .int .u8 s, .bool wd, .slice a len cap] 24)) := (Below.refl _ _).alloc (Nat.le_refl _) _
  have hA2 := hA.alloc (by simp) (.cells #[.int .u8 b, .int .u8 f', .bool bi', .bool fi', .int .u8 k', .int .u8 s', .bool wd', .slice a' len' cap'] 24)
  go_enter Try.func13, Try.ntmps13
  go_wp2
  go_ret
  exact ⟨rfl, hA2⟩
theorem usame_2 (b : Int) (f : Int) (bi : Bool) (fi : Bool) (k : Int) (s : Int) (wd : Bool) (fi' : Bool) (k' : Int) (s' : Int) (wd' : Bool) (a : Option Addr) (len cap : Nat) (a' : Option Addr) (len' cap' : Nat) (w : World) : Calls Try.prog 13 #[.agg #[.int .u8 b, .int .u8 f, .bool bi, .bool fi, .int .u8 k, .int .u8 s, .bool wd, .slice a len cap], .agg #[.int .u8 b, .int .u8 f, .bool (!bi), .bool fi', .int .u8 k', .int .u8 s', .bool wd', .slice a' len' cap']] w fun e w' => e = .returned (.bool false) ∧ Below w.heap.size w w' := by
  have h0 : (bi == !bi) = false := by cases bi <;> rfl
  have hA : Below w.heap.size w (w.alloc (.cells #[.int .u8 b, .int .u8 f, .bool bi, .bool fi, .int .u8 k, .int .u8 s, .bool wd, .slice a len cap] 24)) := (Below.refl _ _).alloc (Nat.le_refl _) _
  have hA2 := hA.alloc (by simp) (.cells #[.int .u8 b, .int .u8 f, .bool (!bi), .bool fi', .int .u8 k', .int .u8 s', .bool wd', .slice a' len' cap'] 24)
  go_enter Try.func13, Try.ntmps13
  go_wp2
  go_ret
  exact ⟨rfl, hA2⟩
theorem usame_3 (b : Int) (f : Int) (bi : Bool) (fi : Bool) (k : Int) (s : Int) (wd : Bool) (k' : Int) (s' : Int) (wd' : Bool) (a : Option Addr) (len cap : Nat) (a' : Option Addr) (len' cap' : Nat) (w : World) : Calls Try.prog 13 #[.agg #[.int .u8 b, .int .u8 f, .bool bi, .bool fi, .int .u8 k, .int .u8 s, .bool wd, .slice a len cap], .agg #[.int .u8 b, .int .u8 f, .bool bi, .bool (!fi), .int .u8 k', .int .u8 s', .bool wd', .slice a' len' cap']] w fun e w' => e = .returned (.bool false) ∧ Below w.heap.size w w' := by
  have h0 : (fi == !fi) = false := by cases fi <;> rfl
  have hA : Below w.heap.size w (w.alloc (.cells #[.int .u8 b, .int .u8 f, .bool bi, .bool fi, .int .u8 k, .int .u8 s, .bool wd, .slice a len cap] 24)) := (Below.refl _ _).alloc (Nat.le_refl _) _
  have hA2 := hA.alloc (by simp) (.cells #[.int .u8 b, .int .u8 f, .bool bi, .bool (!fi), .int .u8 k', .int .u8 s', .bool wd', .slice a' len' cap'] 24)
  go_enter Try.func13, Try.ntmps13
  go_wp2
  go_ret
  exact ⟨rfl, hA2⟩
theorem usame_4 (b : Int) (f : Int) (bi : Bool) (fi : Bool) (k : Int) (s : Int) (wd : Bool) (k' : Int) (s' : Int) (wd' : Bool) (a : Option Addr) (len cap : Nat) (a' : Option Addr) (len' cap' : Nat) (w : World) (h : k ≠ k') : Calls Try.prog 13 #[.agg #[.int .u8 b, .int .u8 f, .bool bi, .bool fi, .int .u8 k, .int .u8 s, .bool wd, .slice a len cap], .agg #[.int .u8 b, .int .u8 f, .bool bi, .bool fi, .int .u8 k', .int .u8 s', .bool wd', .slice a' len' cap']] w fun e w' => e = .returned (.bool false) ∧ Below w.heap.size w w' := by
  have h0 : (k == k') = false := by simp [h]
  have hA : Below w.heap.size w (w.alloc (.cells #[.int .u8 b, .int .u8 f, .bool bi, .bool fi, .int .u8 k, .int .u8 s, .bool wd, .slice a len cap] 24)) := (Below.refl _ _).alloc (Nat.le_refl _) _
  have hA2 := hA.alloc (by simp) (.cells #[.int .u8 b, .int .u8 f, .bool bi, .bool fi, .int .u8 k', .int .u8 s', .bool wd', .slice a' len' cap'] 24)
  go_enter Try.func13, Try.ntmps13
  go_wp2
  go_ret
  exact ⟨rfl, hA2⟩
theorem usame_5 (b : Int) (f : Int) (bi : Bool) (fi : Bool) (k : Int) (s : Int) (wd : Bool) (s' : Int) (wd' : Bool) (a : Option Addr) (len cap : Nat) (a' : Option Addr) (len' cap' : Nat) (w : World) (h : s ≠ s') : Calls Try.prog 13 #[.agg #[.int .u8 b, .int .u8 f, .bool bi, .bool fi, .int .u8 k, .int .u8 s, .bool wd, .slice a len cap], .agg #[.int .u8 b, .int .u8 f, .bool bi, .bool fi, .int .u8 k, .int .u8 s', .bool wd', .slice a' len' cap']] w fun e w' => e = .returned (.bool false) ∧ Below w.heap.size w w' := by
  have h0 : (s == s') = false := by simp [h]
  have hA : Below w.heap.size w (w.alloc (.cells #[.int .u8 b, .int .u8 f, .bool bi, .bool fi, .int .u8 k, .int .u8 s, .bool wd, .slice a len cap] 24)) := (Below.refl _ _).alloc (Nat.le_refl _) _
  have hA2 := hA.alloc (by simp) (.cells #[.int .u8 b, .int .u8 f, .bool bi, .bool fi, .int .u8 k, .int .u8 s', .bool wd', .slice a' len' cap'] 24)
  go_enter Try.func13, Try.ntmps13
  go_wp2
  go_ret
  exact ⟨rfl, hA2⟩
theorem usame_6 (b : Int) (f : Int) (bi : Bool) (fi : Bool) (k : Int) (s : Int) (wd : Bool)  (a : Option Addr) (len cap : Nat) (a' : Option Addr) (len' cap' : Nat) (w : World) : Calls Try.prog 13 #[.agg #[.int .u8 b, .int .u8 f, .bool bi, .bool fi, .int .u8 k, .int .u8 s, .bool wd, .slice a len cap], .agg #[.int .u8 b, .int .u8 f, .bool bi, .bool fi, .int .u8 k, .int .u8 s, .bool (!wd), .slice a' len' cap']] w fun e w' => e = .returned (.bool false) ∧ Below w.heap.size w w' := by
  have h0 : (wd == !wd) = false := by cases wd <;> rfl
  have hA : Below w.heap.size w (w.alloc (.cells #[.int .u8 b, .int .u8 f, .bool bi, .bool fi, .int .u8 k, .int .u8 s, .bool wd, .slice a len cap] 24)) := (Below.refl _ _).alloc (Nat.le_refl _) _
  have hA2 := hA.alloc (by simp) (.cells #[.int .u8 b, .int .u8 f, .bool bi, .bool fi, .int .u8 k, .int .u8 s, .bool (!wd), .slice a' len' cap'] 24)
  go_enter Try.func13, Try.ntmps13
  go_wp2
  go_ret
  exact ⟨rfl, hA2⟩
theorem strs_eq {xs ys : List Int} (hx : ∀ z ∈ xs, 0 ≤ z ∧ z < 256) (hy : ∀ z ∈ ys, 0 ≤ z ∧ z < 256) : ((strOfNums xs).toList == (strOfNums ys).toList) = decide (xs = ys) := by
  rw [ByteArray.toList_eq, ByteArray.toList_eq]
  by_cases h : xs = ys
  · subst h; simp
  · rw [decide_eq_false h, beq_eq_false_iff_ne]
    intro e
    exact h (strOfNums_inj hx hy (Go.WideShapes.bytes_inj e))
theorem rsame_row (b f : Int) (bi fi : Bool) (k s : Int) (wd : Bool) (a : Option Addr) (len cap : Nat) (zs : List Int) (a' : Option Addr) (len' cap' : Nat) (zs' : List Int) (w : World) (hr : Row w a len zs) (hr' : Row w a' len' zs') (hm : len ≤ 1000) :
    Calls Try.prog 14 #[.agg #[.int .u8 b, .int .u8 f, .bool bi, .bool fi, .int .u8 k, .int .u8 s, .bool wd, .slice a len cap], .agg #[.int .u8 b, .int .u8 f, .bool bi, .bool fi, .int .u8 k, .int .u8 s, .bool wd, .slice a' len' cap']] w fun e w' => e = .returned (.bool (decide (zs = zs'))) ∧ Below w.heap.size w w' := by
  have hd := strs_eq hr.2.1 hr'.2.1
  have hA : Below w.heap.size w (w.alloc (.cells #[.int .u8 b, .int .u8 f, .bool bi, .bool fi, .int .u8 k, .int .u8 s, .bool wd, .slice a len cap] 24)) := (Below.refl _ _).alloc (Nat.le_refl _) _
  have hA2 := hA.alloc (by simp) (.cells #[.int .u8 b, .int .u8 f, .bool bi, .bool fi, .int .u8 k, .int .u8 s, .bool wd, .slice a' len' cap'] 24)
  have hs := (hr.below hA2).str (cap := cap)
  have hs' := (hr'.below hA2).str (cap := cap')
  clear hr hr' hA
  go_enter Try.func14, Try.ntmps14
  go_wp2
  go_ret
  exact ⟨rfl, hA2⟩
theorem usame_row (b f : Int) (bi fi : Bool) (k s : Int) (wd : Bool) (a : Option Addr) (len cap : Nat) (zs : List Int) (a' : Option Addr) (len' cap' : Nat) (zs' : List Int) (w : World) (hr : Row w a len zs) (hr' : Row w a' len' zs') (hm : len ≤ 1000) :
    Calls Try.prog 13 #[.agg #[.int .u8 b, .int .u8 f, .bool bi, .bool fi, .int .u8 k, .int .u8 s, .bool wd, .slice a len cap], .agg #[.int .u8 b, .int .u8 f, .bool bi, .bool fi, .int .u8 k, .int .u8 s, .bool wd, .slice a' len' cap']] w fun e w' => e = .returned (.bool (decide (zs = zs'))) ∧ Below w.heap.size w w' := by
  have hA : Below w.heap.size w (w.alloc (.cells #[.int .u8 b, .int .u8 f, .bool bi, .bool fi, .int .u8 k, .int .u8 s, .bool wd, .slice a len cap] 24)) := (Below.refl _ _).alloc (Nat.le_refl _) _
  have hA2 := hA.alloc (by simp) (.cells #[.int .u8 b, .int .u8 f, .bool bi, .bool fi, .int .u8 k, .int .u8 s, .bool wd, .slice a' len' cap'] 24)
  have HR := Lib.hid (hr.below hA2)
  have HR' := Lib.hid (hr'.below hA2)
  clear hr hr' hA
  go_enter Try.func13, Try.ntmps13
  go_wp2_with fail
  refine (equal_is _ _ _ _ _ _ _ _ _ hm HR.out HR'.out).mono ?_
  rintro e w' ⟨rfl, hB⟩
  go_wp2
  go_ret
  exact ⟨rfl, bthen hA2 hB⟩
theorem rsame_is (b f : Int) (bi fi : Bool) (k s : Int) (wd : Bool) (a : Option Addr) (len cap : Nat) (zs : List Int) (b' f' : Int) (bi' fi' : Bool) (k' s' : Int) (wd' : Bool) (a' : Option Addr) (len' cap' : Nat) (zs' : List Int) (w : World) (hr : Row w a len zs) (hr' : Row w a' len' zs') (hm : len ≤ 1000) : Calls Try.prog 14 #[.agg #[.int .u8 b, .int .u8 f, .bool bi, .bool fi, .int .u8 k, .int .u8 s, .bool wd, .slice a len cap], .agg #[.int .u8 b', .int .u8 f', .bool bi', .bool fi', .int .u8 k', .int .u8 s', .bool wd', .slice a' len' cap']] w fun e w' => e = .returned (.bool (sameV b f bi fi k s wd zs b' f' bi' fi' k' s' wd' zs')) ∧ Below w.heap.size w w' := by
  by_cases h : b = b'
  case neg =>
    refine (rsame_0 _ _ _ _ _ _ _ _ _ _ _ _ _ _ _ _ _ _ _ _ _ h).mono ?_
    rintro e w' ⟨rfl, hB⟩
    exact ⟨ret_bool (by simp [sameV, h]), hB⟩
  subst h
  by_cases h : f = f'
  case neg =>
    refine (rsame_1 _ _ _ _ _ _ _ _ _ _ _ _ _ _ _ _ _ _ _ _ h).mono ?_
    rintro e w' ⟨rfl, hB⟩
    exact ⟨ret_bool (by simp [sameV, h]), hB⟩
  subst h
  by_cases h : bi = bi'
  case neg =>
    obtain rfl : bi' = !bi := by cases bi <;> cases bi' <;> simp_all
    refine (rsame_2 _ _ _ _ _ _ _ _ _ _ _ _ _ _ _ _ _ _).mono ?_
    rintro e w' ⟨rfl, hB⟩
    exact ⟨ret_bool (by simp [sameV]), hB⟩
  subst h
  by_cases h : fi = fi'
  case neg =>
    obtain rfl : fi' = !fi := by cases fi <;> cases fi' <;> simp_all
    refine (rsame_3 _ _ _ _ _ _ _ _ _ _ _ _ _ _ _ _ _).mono ?_
    rintro e w' ⟨rfl, hB⟩
    exact ⟨ret_bool (by simp [sameV]), hB⟩
  subst h
  by_cases h : k = k'
  case neg =>
    refine (rsame_4 _ _ _ _ _ _ _ _ _ _ _ _ _ _ _ _ _ h).mono ?_
    rintro e w' ⟨rfl, hB⟩
    exact ⟨ret_bool (by simp [sameV, h]), hB⟩
  subst h
  by_cases h : s = s'
  case neg =>
    refine (rsame_5 _ _ _ _ _ _ _ _ _ _ _ _ _ _ _ _ h).mono ?_
    rintro e w' ⟨rfl, hB⟩
    exact ⟨ret_bool (by simp [sameV, h]), hB⟩
  subst h
  by_cases h : wd = wd'
  case neg =>
    obtain rfl : wd' = !wd := by cases wd <;> cases wd' <;> simp_all
    refine (rsame_6 _ _ _ _ _ _ _ _ _ _ _ _ _ _).mono ?_
    rintro e w' ⟨rfl, hB⟩
    exact ⟨ret_bool (by simp [sameV]), hB⟩
  subst h
  refine (rsame_row _ _ _ _ _ _ _ _ _ _ _ _ _ _ _ _ hr hr' hm).mono ?_
  rintro e w' ⟨rfl, hB⟩
  exact ⟨ret_bool (by simp [sameV]), hB⟩
theorem usame_is (b f : Int) (bi fi : Bool) (k s : Int) (wd : Bool) (a : Option Addr) (len cap : Nat) (zs : List Int) (b' f' : Int) (bi' fi' : Bool) (k' s' : Int) (wd' : Bool) (a' : Option Addr) (len' cap' : Nat) (zs' : List Int) (w : World) (hr : Row w a len zs) (hr' : Row w a' len' zs') (hm : len ≤ 1000) : Calls Try.prog 13 #[.agg #[.int .u8 b, .int .u8 f, .bool bi, .bool fi, .int .u8 k, .int .u8 s, .bool wd, .slice a len cap], .agg #[.int .u8 b', .int .u8 f', .bool bi', .bool fi', .int .u8 k', .int .u8 s', .bool wd', .slice a' len' cap']] w fun e w' => e = .returned (.bool (sameV b f bi fi k s wd zs b' f' bi' fi' k' s' wd' zs')) ∧ Below w.heap.size w w' := by
  by_cases h : b = b'
  case neg =>
    refine (usame_0 _ _ _ _ _ _ _ _ _ _ _ _ _ _ _ _ _ _ _ _ _ h).mono ?_
    rintro e w' ⟨rfl, hB⟩
    exact ⟨ret_bool (by simp [sameV, h]), hB⟩
  subst h
  by_cases h : f = f'
  case neg =>
    refine (usame_1 _ _ _ _ _ _ _ _ _ _ _ _ _ _ _ _ _ _ _ _ h).mono ?_
    rintro e w' ⟨rfl, hB⟩
    exact ⟨ret_bool (by simp [sameV, h]), hB⟩
  subst h
  by_cases h : bi = bi'
  case neg =>
    obtain rfl : bi' = !bi := by cases bi <;> cases bi' <;> simp_all
    refine (usame_2 _ _ _ _ _ _ _ _ _ _ _ _ _ _ _ _ _ _).mono ?_
    rintro e w' ⟨rfl, hB⟩
    exact ⟨ret_bool (by simp [sameV]), hB⟩
  subst h
  by_cases h : fi = fi'
  case neg =>
    obtain rfl : fi' = !fi := by cases fi <;> cases fi' <;> simp_all
    refine (usame_3 _ _ _ _ _ _ _ _ _ _ _ _ _ _ _ _ _).mono ?_
    rintro e w' ⟨rfl, hB⟩
    exact ⟨ret_bool (by simp [sameV]), hB⟩
  subst h
  by_cases h : k = k'
  case neg =>
    refine (usame_4 _ _ _ _ _ _ _ _ _ _ _ _ _ _ _ _ _ h).mono ?_
    rintro e w' ⟨rfl, hB⟩
    exact ⟨ret_bool (by simp [sameV, h]), hB⟩
  subst h
  by_cases h : s = s'
  case neg =>
    refine (usame_5 _ _ _ _ _ _ _ _ _ _ _ _ _ _ _ _ h).mono ?_
    rintro e w' ⟨rfl, hB⟩
    exact ⟨ret_bool (by simp [sameV, h]), hB⟩
  subst h
  by_cases h : wd = wd'
  case neg =>
    obtain rfl : wd' = !wd := by cases wd <;> cases wd' <;> simp_all
    refine (usame_6 _ _ _ _ _ _ _ _ _ _ _ _ _ _).mono ?_
    rintro e w' ⟨rfl, hB⟩
    exact ⟨ret_bool (by simp [sameV]), hB⟩
  subst h
  refine (usame_row _ _ _ _ _ _ _ _ _ _ _ _ _ _ _ _ hr hr' hm).mono ?_
  rintro e w' ⟨rfl, hB⟩
  exact ⟨ret_bool (by simp [sameV]), hB⟩

def nameV (s : Int) : ByteArray := if s = 0 then { data := #[83, 73, 79] } else if s = 1 then { data := #[83, 73, 78] } else if s = 2 then { data := #[83, 73, 69] } else if s = 3 then { data := #[83, 73, 79, 83] } else if s = 4 then { data := #[83, 73, 80, 79] } else if s = 5 then { data := #[83, 73, 66] } else { data := #[] }
theorem nameV_none {s : Int} (h : 6 ≤ s) : nameV s = { data := #[] } := by
  unfold nameV
  rw [if_neg (by omega), if_neg (by omega), if_neg (by omega), if_neg (by omega), if_neg (by omega), if_neg (by omega)]
theorem name_is (s : Int) (h0 : 0 ≤ s) (h1 : s ≤ 255) (w : World) : Calls Try.prog 15 #[.int .u8 s] w fun e w' => e = .returned (.string (nameV s)) ∧ Below w.heap.size w w' := by
  rcases (by omega : s = 0 ∨ s = 1 ∨ s = 2 ∨ s = 3 ∨ s = 4 ∨ s = 5 ∨ 6 ≤ s) with h | h | h | h | h | h | h
  case inr.inr.inr.inr.inr.inr =>
    rw [nameV_none h]
    go_enter Try.func15, Try.ntmps15
    go_wp2
    go_ret
    exact ⟨rfl, (Below.refl _ _).alloc (Nat.le_refl _) _⟩
  all_goals subst h
  all_goals (go_enter Try.func15, Try.ntmps15)
  all_goals go_wp2
  all_goals go_ret
  all_goals exact ⟨rfl, (Below.refl _ _).alloc (Nat.le_refl _) _⟩
end Go.Proofs.Ytpgalefpccgpfaa
