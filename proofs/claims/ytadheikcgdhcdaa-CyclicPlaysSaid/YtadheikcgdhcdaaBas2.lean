/-
  The example of layer 11, its second half: one unit is sent.
-/
import Derived.Test.YtadheikcgdhcdaaBas
namespace Go.Proofs.Ytadheikcgdhcdaa
open Go.RowKit
set_option linter.unusedVariables false
set_option linter.unusedSimpArgs false

theorem send_close {h g2 : Nat} {a b s1 n1 : Value} {xs : List Value} {w w5 wf : World} {o : Obj} (hlt : h < w.heap.size) (hh5 : HB w5 h 5 1000 s1 0 n1) (hF5 : Fr (fun _ => False) (w.drew.alloc o) w5)
    (hx : ∀ j u, xs[j]? = some u → w.cell? ⟨g2, j, none⟩ = some u) (hg : g2 ≠ h)
    (hwf : (w5.setCell ⟨h, 2, none⟩ a).setCell ⟨h, 4, none⟩ b = wf ∨ (w5.setCell ⟨h, 4, none⟩ b).setCell ⟨h, 2, none⟩ a = wf) :
    HB wf h 5 1000 a 0 b ∧ Fr (· = h) w wf ∧ (∀ j u, xs[j]? = some u → wf.cell? ⟨g2, j, none⟩ = some u) := by
  have hF : Fr (· = h) w w5 := ((Fr.refl (· = h) w).drew.alloc o).then_ (hF5.mono (fun _ h => h.elim))
  have key : HB wf h 5 1000 a 0 b ∧ Fr (· = h) w wf := by
    rcases hwf with rfl | rfl
    · exact ⟨Blk.set (Blk.set hh5 2 a) 4 b, Fr.setCell (S := (· = h)) (p := ⟨h, 4, none⟩) (Fr.setCell (S := (· = h)) (p := ⟨h, 2, none⟩) hF (.inl rfl) _) (.inl rfl) _⟩
    · exact ⟨Blk.set (Blk.set hh5 4 b) 2 a, Fr.setCell (S := (· = h)) (p := ⟨h, 2, none⟩) (Fr.setCell (S := (· = h)) (p := ⟨h, 4, none⟩) hF (.inl rfl) _) (.inl rfl) _⟩
  refine ⟨key.1, key.2, fun j u hj => ?_⟩
  have h1 := hx j u hj
  rw [← h1]
  exact World.cell?_of_block (w := w) (key.2.block _ (World.block_lt_of_cell? _ _ h1) hg)

set_option maxRecDepth 100000 in
set_option maxHeartbeats 4000000 in
theorem send_first (h g1 c1 g2 c2 : Nat) (xs : List Value) (w : World) (hH : HB w h 5 1000 (.slice none 0 0) 0 (.slice (some ⟨g1, 0, none⟩) 1 c1)) (hm : w.cell? ⟨g1, 0, none⟩ = some (.slice (some ⟨g2, 0, none⟩) 3 c2)) (hc : 1 ≤ c1)
    (hx : ∀ j u, xs[j]? = some u → w.cell? ⟨g2, j, none⟩ = some u) (hl : xs.length = 3) (h1 : ∀ u ∈ xs, u.oneCell' = true) (hg : g1 ≠ h ∧ g2 ≠ h) :
    Calls Try.prog 22 #[.pointer (some ⟨h, 0, none⟩)] w fun e w' => ∃ g8 c8, e = .returned (.tuple #[.int .u8 0, .slice (some ⟨g8, 0, none⟩) 3 c8, .int .i64 0]) ∧ Fr (· = h) w w' := by
  have k0 := Blk.cell hH 0 rfl
  have k2 := Blk.cell hH 2 rfl
  have k4 := Blk.cell hH 4 rfl
  have HX := Lib.hid hx
  have HL := Lib.hid hl
  have H1 := Lib.hid h1
  obtain ⟨i0, hi, hi0, hi1, hi2⟩ := info_parts infoC33
  have hlt := Blk.lt hH
  have hh2 : HB (w.drew.alloc (.cells #[.slice (some ⟨g2, 0, none⟩) 3 c2] 33)) h 5 1000 (.slice none 0 0) 0 (.slice (some ⟨g1, 0, none⟩) 1 c1) := Blk.alloc (Blk.drew hH) _
  have y2 := Blk.cell hh2 2 rfl
  have y4 := Blk.cell hh2 4 rfl
  clear hx hl h1
  go_enter Try.func22, Try.ntmps22
  go_upto_region 6 with fail
  go_cut [30] from 31 to 47 (fun _ wx => ∃ g4 c4 nv, HB wx h 5 1000 (.slice (some ⟨g4, 0, none⟩) 1 c4) 0 nv ∧ Fr (· = h) w wx ∧ (∀ j u, xs[j]? = some u → wx.cell? ⟨g2, j, none⟩ = some u))
  case first =>
    go_region_law (refine step_append_lies (w.drew.alloc (.cells #[.slice (some ⟨g2, 0, none⟩) 3 c2] 33)) (by rfl) (.tmp 35) (.tmp 37) 49 (by rfl) 0 33 i0 (.slice none 0 0) 1 24 Try.underlying49 hi hi0 hi1 hi2 rfl (by decide) (.slice none 0 0) 0 [] (by rfl) (own_nil _ _ _ _) ⟨w.heap.size, 0, none⟩ 1 1 [.slice (some ⟨g2, 0, none⟩) 3 c2] (by rfl) rfl (World.news_of_block (B := w.heap.size) (cs := #[.slice (some ⟨g2, 0, none⟩) 3 c2]) (t := 33) (fr := (0, 0)) (by show (w.heap.push _)[w.heap.size]? = _; simp)) (by simp [Value.oneCell']) (by decide) (by decide) (by decide) (Nat.zero_le _) _ rfl ?_; intro g4 c4 w5 hO5 hG hat hlt5; have hF5 : Fr (fun _ => False) (w.drew.alloc (.cells #[.slice (some ⟨g2, 0, none⟩) 3 c2] 33)) w5 := (Fr.refl _ _).grown hG (by intro k e; cases e); have hh5 : HB w5 h 5 1000 (.slice none 0 0) 0 (.slice (some ⟨g1, 0, none⟩) 1 c1) := Blk.fr hh2 hF5 (fun e => e); have z2 := Blk.cell hh5 2 rfl; have z4 := Blk.cell hh5 4 rfl; have f2 := Blk.frozen hh5 2; have f4 := Blk.frozen hh5 4)
    all_goals (generalize (if c1 = 1 then some (⟨g1, 0, none⟩ : Addr) else some ⟨g1, 1, none⟩) = ad)
    all_goals go_wp2
    all_goals go_meet
    all_goals exact ⟨g4, c4, _, send_close hlt hh5 hF5 HX.out hg.2 (by first | exact .inl rfl | exact .inr rfl)⟩
  case rest =>
    obtain ⟨g4, c4, nv, q1, q2, q3⟩ := hcut
    clear k0 k2 k4 y2 y4 hh2
    go_wp2_with fail
    refine (last_one h g4 c4 wc _ q1).mono ?_
    rintro e w7 ⟨rfl, n7, rfl⟩
    go_wp2_with fail
    refine (clone_is g2 3 c2 xs (wc.drewN n7) q3 HL.out (by decide) (by decide) H1.out).mono ?_
    rintro e w8 ⟨g8, c8, rfl, hb8, -, -⟩
    go_wp2
    refine bodyPost_ret (v := .tuple #[.int .u8 0, .slice (some ⟨g8, 0, none⟩) 3 c8, .int .i64 0]) (by simp [results, Try.results22, go_sem]) rfl ?_
    exact ⟨_, _, rfl, (q2.drewN n7).then_ (.of_below hb8)⟩
end Go.Proofs.Ytadheikcgdhcdaa
