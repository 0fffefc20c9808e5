/-
  Some wait no more.
-/
import Derived.Test.YtadheikcgdhcdaaHxD
import Derived.Test.YtadheikcgdhcdaaTake
namespace Go.Proofs.Ytadheikcgdhcdaa
open Go.RowKit
set_option linter.unusedVariables false
set_option linter.unusedSimpArgs false

theorem Msgs.drop {w : World} {base : Nat} {vs : List Value} {xs : List (List Int)} (h : Msgs w base vs xs) (k : Nat) : Msgs w base (vs.drop k) (xs.drop k) :=
  ⟨by simp [h.1], fun i x hx => by
    rw [List.getElem?_drop] at hx ⊢
    exact h.2 _ x hx⟩
theorem Msgs.one {w : World} {base : Nat} {vs : List Value} {xs : List (List Int)} (h : Msgs w base vs xs) (u : Value) (hu : u ∈ vs) : u.oneCell' = true := by
  obtain ⟨i, hi⟩ := List.getElem?_of_mem hu
  have hlt := (List.getElem?_eq_some_iff.1 hi).1
  obtain ⟨x, hx⟩ : ∃ x, xs[i]? = some x := ⟨_, List.getElem?_eq_getElem (by rw [h.1]; exact hlt)⟩
  obtain ⟨g, c, cs, h1, _⟩ := h.2 i x hx
  rw [hi] at h1
  obtain rfl : u = _ := by simpa using h1
  rfl
/-- The hold behind some that are deleted, and the stores. -/
theorem HX.freed {w w1 w2 : World} {h : Nat} {m o f f' : Int} {sv nv sv' : Value} {ss ns : List (List Int)} {svs : List Value} (k : HX w h m o f sv nv ss ns) (hs2 : Msgs w 0 svs ss) (i : Nat)
    (hF : Fr (fun q => sv.ownBlock = some q) w w1) (hS : SS w1 0 33 sv' (svs.drop i)) (ho : sv'.ownBlock = sv.ownBlock) (hf : 0 ≤ f' ∧ f' ≤ 127)
    (hw : w2 = (w1.setCell ⟨h, 2, none⟩ sv').setCell ⟨h, 3, none⟩ (.int .u8 f') ) : HX w2 h m o f' sv' nv (ss.drop i) ns ∧ HF w w2 h sv nv sv' nv := by
  subst hw
  obtain ⟨svs', hs1, _⟩ := k.sl
  obtain ⟨nvs, hn1, hn2⟩ := k.nl
  have hne : ∀ {q : Nat}, Ro sv nv q → q ≠ h := fun hq => by obtain ⟨ds, hd⟩ := k.row33 hq; exact hd.apart k.blk (by decide)
  have hb1 : Blk w1 h [.int .i64 m, .int .i64 o, sv, .int .u8 f, nv] 105 := k.blk.fr hF (fun e => hne (.inl e) rfl)
  have hF2 : Fr (fun q => q = h) w1 ((w1.setCell ⟨h, 2, none⟩ sv').setCell ⟨h, 3, none⟩ (.int .u8 f')) := Fr.setCell (S := fun q => q = h) (p := ⟨h, 3, none⟩) (Fr.set1 w1 ⟨h, 2, none⟩ _) (.inl rfl) _
  have hall : Fr (fun q => q = h ∨ sv.ownBlock = some q) w ((w1.setCell ⟨h, 2, none⟩ sv').setCell ⟨h, 3, none⟩ (.int .u8 f')) := (hF.mono (fun _ h => .inr h)).then_ (hF2.mono (fun _ h => .inl h))
  have h5 : ∀ g cs, Blk w g cs 5 → 0 ≤ g → ¬ (g = h ∨ sv.ownBlock = some g) := by
    rintro g cs hG _ (e | e)
    · exact hG.apart k.blk (by decide) e
    · obtain ⟨ds, hd⟩ := k.row33 (.inl e); exact hG.apart hd (by decide) rfl
  refine ⟨⟨(hb1.set 2 sv').set 3 (.int .u8 f'), ⟨_, hS.fr hF2 (fun g hg e => hne (.inl (ho ▸ hg)) e), (hs2.drop i).fr hall h5⟩, ⟨nvs, hn1.fr hall ?_, hn2.fr hall h5⟩, fun g hg => k.sep g (ho ▸ hg), hf, ?_, ?_, ?_⟩, ⟨hall.mono ?_, fun q hq => ?_⟩⟩
  · rintro g hg (e | e)
    · exact hne (.inr hg) e
    · exact k.sep g e hg
  · have := k.cnt; simp only [List.length_drop]; omega
  · have := k.win; simp only [List.length_drop]; omega
  · rintro x (hx | hx)
    · exact k.len x (.inl (List.mem_of_mem_drop hx))
    · exact k.len x (.inr hx)
  · rintro q (e | e)
    · exact .inl e
    · exact .inr (.inl e)
  · rcases hq with e | e
    · exact .inl (.inl (ho ▸ e))
    · exact .inl (.inr e)

theorem HX.free_no {w : World} {h : Nat} {m o f : Int} {sv nv : Value} {ss ns : List (List Int)} (k : HX w h m o f sv nv ss ns) (n : Int) (hn : 0 ≤ n ∧ n ≤ 255) (hk : knowsB f ss.length n = false) :
    Calls Try.prog 23 #[.pointer (some ⟨h, 0, none⟩), .int .u8 n] w fun e w' => e = .returned (.tuple #[.int .i64 0, .int .i64 10]) ∧ ∃ q, w' = w.drewN q := by
  have hc := k.knows n hn
  rw [hk] at hc
  clear hk k
  go_enter Try.func23, Try.ntmps23
  go_wp2_with (go_at_call 72; refine hc.mono ?_; rintro e w' ⟨rfl, q, rfl⟩)
  refine bodyPost_ret (v := .tuple #[.int .i64 0, .int .i64 10]) (by simp [results, Try.results23, go_sem]) rfl ?_
  exact ⟨rfl, _, rfl⟩
theorem HX.free_yes {w : World} {h : Nat} {m o f : Int} {sv nv : Value} {ss ns : List (List Int)} (k : HX w h m o f sv nv ss ns) (n : Int) (hn : 0 ≤ n ∧ n ≤ 255) (hk : knowsB f ss.length n = true) (i : Nat) (hi : (n - f + 1) % 128 = i) :
    Calls Try.prog 23 #[.pointer (some ⟨h, 0, none⟩), .int .u8 n] w fun e w' => e = .returned (.tuple #[.int .i64 i, .int .i64 0]) ∧ ∃ sv', HX w' h m o ((n + 1) % 128) sv' nv (ss.drop i) ns ∧ HF w w' h sv nv sv' nv := by
  have hc := k.knows n hn
  rw [hk] at hc
  have hk2 : n < 128 ∧ (n - f + 1) % 128 ≤ ss.length := by simpa [knowsB] using hk
  obtain ⟨svs, hs1, hs2⟩ := k.sl
  have hgap : (n - (f + 127) % 128) % 128 = (i : Int) := by omega
  have hle : i ≤ svs.length := by have := hs2.1; omega
  have hd := fun q => delete_any sv svs i (w.drewN q) hs1 hle (by have := k.cnt; have := hs2.1; omega) (fun u hu => hs2.one u hu)
  have c2 := k.blk.cell 2 rfl
  have c3 := k.blk.cell 3 rfl
  have hne : ∀ {q : Nat}, Ro sv nv q → q ≠ h := fun hq => by obtain ⟨ds, hd⟩ := k.row33 hq; exact hd.apart k.blk (by decide)
  have hK := Lib.hid k
  have H1 := Lib.hid hs2
  have HN : Hid (∀ {q : Nat}, Ro sv nv q → q ≠ h) := Lib.hid hne
  clear k hs1 hs2 hk hk2 hne hi
  go_enter Try.func23, Try.ntmps23
  go_wp2_with (first | (go_at_call 72; refine hc.mono ?_; rintro e w' ⟨rfl, q, rfl⟩) | (go_at_call 74; refine (prev_any _ _).mono ?_; rintro e w' ⟨rfl, rfl⟩) | (go_at_call 73; refine (gap_any _ _ _).mono ?_; rintro e w' ⟨rfl, rfl⟩))
  refine (hd q).mono ?_
  rintro e w1 ⟨v', rfl, hF, hS, ho⟩
  have hF1 : Fr (fun q => sv.ownBlock = some q) w w1 := ((Fr.refl _ w).drewN q).then_ hF
  have hb1 : Blk w1 h [.int .i64 m, .int .i64 o, sv, .int .u8 f, nv] 105 := hK.out.blk.fr hF1 (fun e => HN.out (.inl e) rfl)
  have f2 := hb1.frozen 2
  have f3 := hb1.frozen 3
  have d2 := hb1.cell 2 rfl
  have d3 := hb1.cell 3 rfl
  obtain ⟨sa', sc', rfl⟩ := hS.shape
  clear hF
  go_wp2_with fail
  refine (next_is _ _).mono ?_
  rintro e w' ⟨rfl, rfl⟩
  go_wp2
  refine bodyPost_ret (v := .tuple #[.int .i64 i, .int .i64 0]) (by simp [results, Try.results23, go_sem]) rfl ?_
  refine ⟨rfl, _, hK.out.freed H1.out i hF1 hS ho (by omega) ?_⟩
  rw [List.length_drop]
end Go.Proofs.Ytadheikcgdhcdaa
