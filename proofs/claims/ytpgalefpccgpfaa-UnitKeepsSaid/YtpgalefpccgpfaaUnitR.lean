/-
  UnitRights: which units may be, and why others may not.
-/
import Derived.Test.YtpgalefpccgpfaaBase
import Derived.Test.YtpgalefpccgpfaaRows
namespace Go.Proofs.Ytpgalefpccgpfaa
open Go.RowKit
set_option linter.unusedVariables false
set_option linter.unusedSimpArgs false

def rightV (b f k s : Int) (len : Nat) : Int := if 127 < b ∨ 127 < f ∨ 2 < k ∨ (k = 1 ∧ 7 < s) then 1 else if k = 2 ∧ len < 3 then 5 else if k = 2 ∧ 273 < len then 6 else 0

set_option maxHeartbeats 1000000 in
theorem right_any (b f : Int) (bi fi : Bool) (k s : Int) (wd : Bool) (a : Option Addr) (len cap : Nat) (w : World) : Calls Try.prog 12 #[.agg #[.int .u8 b, .int .u8 f, .bool bi, .bool fi, .int .u8 k, .int .u8 s, .bool wd, .slice a len cap]] w fun e w' => e = .returned (.int .i64 (rightV b f k s len)) ∧ Below w.heap.size w w' := by
  go_enter Try.func12, Try.ntmps12
  go_wp2
  all_goals (go_ret; refine ⟨ret_int ?_, (Below.refl _ _).alloc (Nat.le_refl _) _⟩; unfold rightV; (repeat' split) <;> omega)

set_option maxHeartbeats 1000000 in
theorem rright_any (b f : Int) (bi fi : Bool) (k s : Int) (wd : Bool) (a : Option Addr) (len cap : Nat) (w : World) : Calls Try.prog 11 #[.agg #[.int .u8 b, .int .u8 f, .bool bi, .bool fi, .int .u8 k, .int .u8 s, .bool wd, .slice a len cap]] w fun e w' => e = .returned (.int .i64 (rightV b f k s len)) ∧ Below w.heap.size w w' := by
  go_enter Try.func11, Try.ntmps11
  go_wp2
  all_goals (go_ret; refine ⟨ret_int ?_, (Below.refl _ _).alloc (Nat.le_refl _) _⟩; unfold rightV; (repeat' split) <;> omega)

theorem bit_on (n : Int) (w : World) : Calls Try.prog 21 #[.int .u8 n, .bool true] w fun e w' => (∃ v, e = .returned (.int .u8 v)) ∧ w = w' := by
  go_enter Try.func21, Try.ntmps21
  go_wp2
  go_ret
  exact ⟨⟨_, rfl⟩, rfl⟩
theorem bit_off (n : Int) (w : World) : Calls Try.prog 21 #[.int .u8 n, .bool false] w fun e w' => (∃ v, e = .returned (.int .u8 v)) ∧ w = w' := by
  go_enter Try.func21, Try.ntmps21
  go_wp2
  go_ret
  exact ⟨⟨_, rfl⟩, rfl⟩
theorem bit_any (n : Int) (o : Bool) (w : World) : Calls Try.prog 21 #[.int .u8 n, .bool o] w fun e w' => (∃ v, e = .returned (.int .u8 v)) ∧ w = w' := by
  cases o
  · exact bit_off n w
  · exact bit_on n w

theorem near_yes (b f : Int) (bi fi : Bool) (k s : Int) (wd : Bool) (a : Option Addr) (len cap : Nat) (how : Int) (h : 64 ≤ how) (w : World) : Calls Try.prog 9 #[.agg #[.int .u8 b, .int .u8 f, .bool bi, .bool fi, .int .u8 k, .int .u8 s, .bool wd, .slice a len cap], .int .u8 how] w fun e w' => ∃ b' f' k' s', e = .returned (.agg #[.int .u8 b', .int .u8 f', .bool bi, .bool fi, .int .u8 k', .int .u8 s', .bool wd, .slice a len cap]) ∧ Below w.heap.size w w' := by
  go_enter Try.func9, Try.ntmps9
  go_wp2
  refine bodyPost_ret (v := .agg #[.int .u8 (Int.tmod b 128), .int .u8 (Int.tmod f 128), .bool bi, .bool fi, .int .u8 (Int.tmod k 3), .int .u8 (Int.tmod s 8), .bool wd, .slice a len cap]) (by simp [results, Try.results9, go_sem]) rfl ?_
  exact ⟨_, _, _, _, rfl, ((Below.refl _ _).alloc (Nat.le_refl _) _).alloc (by simp) _⟩
theorem near_no (b f : Int) (bi fi : Bool) (k s : Int) (wd : Bool) (a : Option Addr) (len cap : Nat) (how : Int) (h : ¬ 64 ≤ how) (w : World) : Calls Try.prog 9 #[.agg #[.int .u8 b, .int .u8 f, .bool bi, .bool fi, .int .u8 k, .int .u8 s, .bool wd, .slice a len cap], .int .u8 how] w fun e w' => ∃ b' f' k' s', e = .returned (.agg #[.int .u8 b', .int .u8 f', .bool bi, .bool fi, .int .u8 k', .int .u8 s', .bool wd, .slice a len cap]) ∧ Below w.heap.size w w' := by
  go_enter Try.func9, Try.ntmps9
  go_wp2
  all_goals first | omega | skip
  refine bodyPost_ret (v := .agg #[.int .u8 b, .int .u8 f, .bool bi, .bool fi, .int .u8 k, .int .u8 s, .bool wd, .slice a len cap]) (by simp [results, Try.results9, go_sem]) rfl ?_
  exact ⟨⟨_, _, _, _, rfl⟩, ((Below.refl _ _).alloc (Nat.le_refl _) _).alloc (by simp) _⟩
theorem near_any (b f : Int) (bi fi : Bool) (k s : Int) (wd : Bool) (a : Option Addr) (len cap : Nat) (how : Int) (w : World) : Calls Try.prog 9 #[.agg #[.int .u8 b, .int .u8 f, .bool bi, .bool fi, .int .u8 k, .int .u8 s, .bool wd, .slice a len cap], .int .u8 how] w fun e w' => ∃ b' f' k' s', e = .returned (.agg #[.int .u8 b', .int .u8 f', .bool bi, .bool fi, .int .u8 k', .int .u8 s', .bool wd, .slice a len cap]) ∧ Below w.heap.size w w' := by
  by_cases h : 64 ≤ how
  · exact near_yes b f bi fi k s wd a len cap how h w
  · exact near_no b f bi fi k s wd a len cap how h w

theorem encode_bad (b f : Int) (bi fi : Bool) (k s : Int) (wd : Bool) (a : Option Addr) (len cap : Nat) (w : World) (h : rightV b f k s len ≠ 0) : Calls Try.prog 10 #[.agg #[.int .u8 b, .int .u8 f, .bool bi, .bool fi, .int .u8 k, .int .u8 s, .bool wd, .slice a len cap]] w fun e w' => e = .returned (.tuple #[.slice none 0 0, .int .i64 (rightV b f k s len)]) ∧ Below w.heap.size w w' := by
  have h0 : (rightV b f k s len == 0) = false := by simp [h]
  generalize hv : rightV b f k s len = v at *
  go_enter Try.func10, Try.ntmps10
  go_wp2_with fail
  refine (right_any _ _ _ _ _ _ _ _ _ _ _).mono ?_
  rintro e w1 ⟨rfl, hb⟩
  rw [hv]
  have hs := hb.size
  simp only [World.size_alloc] at hs hb
  go_wp2
  refine bodyPost_ret (results_tmp2 rfl _ _ _) rfl ⟨?_, ((Below.refl _ _).alloc (Nat.le_refl _) _).trans (hb.mono (by omega))⟩
  simp

/-- A row that may be appended: nil, or cells. -/
def Rowd (w : World) (x : Option Addr) (m : Nat) : Prop := (m = 0 ∧ x = none) ∨ ∃ ad, ∃ news : List Value, x = some ad ∧ 0 < m ∧ news.length = m * 1 ∧ (∀ j u, news[j]? = some u → w.cell? (ad.add j) = some u) ∧ ∀ u ∈ news, u.oneCell' = true

theorem Rowd.below {w w' : World} {x : Option Addr} {m : Nat} (h : Rowd w x m) (hb : Below w.heap.size w w') : Rowd w' x m := by
  rcases h with h | ⟨ad, news, h1, h2, h3, h4, h5⟩
  · exact .inl h
  · refine .inr ⟨ad, news, h1, h2, h3, fun j u hj => ?_, h5⟩
    have h6 := h4 j u hj
    rw [← h6]
    exact hb.cell (World.block_lt_of_cell? _ _ h6)
theorem Rowd.new (w : World) (vs : List Value) (T : TypeId) (h : 0 < vs.length) (h1 : ∀ u ∈ vs, u.oneCell' = true) : Rowd (w.alloc (.cells vs.toArray T (0, 0))) (some ⟨w.heap.size, 0, none⟩) vs.length :=
  .inr ⟨_, vs, rfl, h, by omega, fun j u hj => by have := (Blk.new w vs T).cell j hj; simpa [Addr.add_lit] using this, h1⟩

theorem body_link (b f : Int) (bi fi : Bool) (s : Int) (wd : Bool) (a : Option Addr) (len cap : Nat) (w : World) : Calls Try.prog 20 #[.agg #[.int .u8 b, .int .u8 f, .bool bi, .bool fi, .int .u8 1, .int .u8 s, .bool wd, .slice a len cap]] w fun e w' => ∃ x m c, e = .returned (.slice x m c) ∧ m ≤ 400 ∧ Below w.heap.size w w' ∧ Rowd w' x m := by
  cases wd
  · go_enter Try.func20, Try.ntmps20
    go_wp2
    go_ret
    exact ⟨_, _, _, rfl, by omega, ((Below.refl _ _).alloc (Nat.le_refl _) _).alloc (by simp) _, by simpa using Rowd.new (w.alloc (.cells #[.int .u8 b, .int .u8 f, .bool bi, .bool fi, .int .u8 1, .int .u8 s, .bool false, .slice a len cap] 24)) [.int .u8 s] 5 (by simp) (by simp [Value.oneCell'])⟩
  · go_enter Try.func20, Try.ntmps20
    go_wp2
    go_ret
    exact ⟨_, _, _, rfl, by omega, ((Below.refl _ _).alloc (Nat.le_refl _) _).alloc (by simp) _, by simpa using Rowd.new (w.alloc (.cells #[.int .u8 b, .int .u8 f, .bool bi, .bool fi, .int .u8 1, .int .u8 s, .bool true, .slice a len cap] 24)) [.int .u8 s, .int .u8 0] 5 (by simp) (by simp [Value.oneCell'])⟩
theorem body_signal (b f : Int) (bi fi : Bool) (s : Int) (wd : Bool) (a : Option Addr) (len cap : Nat) (w : World) (hl : len ≤ 400) (hr : Rowd w a len) : Calls Try.prog 20 #[.agg #[.int .u8 b, .int .u8 f, .bool bi, .bool fi, .int .u8 2, .int .u8 s, .bool wd, .slice a len cap]] w fun e w' => ∃ x m c, e = .returned (.slice x m c) ∧ m ≤ 400 ∧ Below w.heap.size w w' ∧ Rowd w' x m := by
  go_enter Try.func20, Try.ntmps20
  go_wp2
  go_ret
  exact ⟨_, _, _, rfl, hl, (Below.refl _ _).alloc (Nat.le_refl _) _, hr.below ((Below.refl _ _).alloc (Nat.le_refl _) _)⟩
theorem body_fill (b f : Int) (bi fi : Bool) (k s : Int) (h1 : k ≠ 1) (h2 : k ≠ 2) (wd : Bool) (a : Option Addr) (len cap : Nat) (w : World) : Calls Try.prog 20 #[.agg #[.int .u8 b, .int .u8 f, .bool bi, .bool fi, .int .u8 k, .int .u8 s, .bool wd, .slice a len cap]] w fun e w' => ∃ x m c, e = .returned (.slice x m c) ∧ m ≤ 400 ∧ Below w.heap.size w w' ∧ Rowd w' x m := by
  have e1 : (k == 1) = false := by simp [h1]
  have e2 : (k == 2) = false := by simp [h2]
  go_enter Try.func20, Try.ntmps20
  go_wp2
  go_ret
  exact ⟨none, 0, 0, rfl, by omega, (Below.refl _ _).alloc (Nat.le_refl _) _, .inl ⟨rfl, rfl⟩⟩
theorem body_any (b f : Int) (bi fi : Bool) (k s : Int) (wd : Bool) (a : Option Addr) (len cap : Nat) (w : World) (hl : len ≤ 400) (hr : Rowd w a len) : Calls Try.prog 20 #[.agg #[.int .u8 b, .int .u8 f, .bool bi, .bool fi, .int .u8 k, .int .u8 s, .bool wd, .slice a len cap]] w fun e w' => ∃ x m c, e = .returned (.slice x m c) ∧ m ≤ 400 ∧ Below w.heap.size w w' ∧ Rowd w' x m := by
  by_cases h1 : k = 1
  · subst h1; exact body_link b f bi fi s wd a len cap w
  by_cases h2 : k = 2
  · subst h2; exact body_signal b f bi fi s wd a len cap w hl hr
  exact body_fill b f bi fi k s h1 h2 wd a len cap w

end Go.Proofs.Ytpgalefpccgpfaa
