/-
  What a hold tells: one that waits, by its place; how many; their octets.
-/
import Derived.Test.YtadheikcgdhcdaaHxW
namespace Go.Proofs.Ytadheikcgdhcdaa
open Go.RowKit
set_option linter.unusedVariables false
set_option linter.unusedSimpArgs false

theorem HX.sent {w : World} {h : Nat} {m o f : Int} {sv nv : Value} {ss ns : List (List Int)} (hx : HX w h m o f sv nv ss ns) :
    Calls Try.prog 24 #[.pointer (some ⟨h, 0, none⟩)] w fun e w' => e = .returned (.int .i64 ss.length) ∧ w' = w := by
  obtain ⟨svs, hs1, hs2⟩ := hx.sl
  obtain ⟨sa, sc, rfl⟩ := hs1.shape
  have c2 := hx.blk.cell 2 rfl
  rw [hs2.1]
  clear hx hs1 hs2
  go_enter Try.func24, Try.ntmps24
  go_wp2
  go_ret
  exact ⟨rfl, rfl⟩
theorem HX.nexts {w : World} {h : Nat} {m o f : Int} {sv nv : Value} {ss ns : List (List Int)} (hx : HX w h m o f sv nv ss ns) :
    Calls Try.prog 53 #[.pointer (some ⟨h, 0, none⟩)] w fun e w' => e = .returned (.int .i64 ns.length) ∧ w' = w := by
  obtain ⟨svs, hs1, hs2⟩ := hx.nl
  obtain ⟨sa, sc, rfl⟩ := hs1.shape
  have c2 := hx.blk.cell 4 rfl
  rw [hs2.1]
  clear hx hs1 hs2
  go_enter Try.func53, Try.ntmps53
  go_wp2
  go_ret
  exact ⟨rfl, rfl⟩
theorem HX.first {w : World} {h : Nat} {m o f : Int} {sv nv : Value} {ss ns : List (List Int)} (hx : HX w h m o f sv nv ss ns) :
    Calls Try.prog 68 #[.pointer (some ⟨h, 0, none⟩)] w fun e w' => e = .returned (.int .u8 f) ∧ w' = w := by
  have c2 := hx.blk.cell 3 rfl
  clear hx
  go_enter Try.func68, Try.ntmps68
  go_wp2
  go_ret
  exact ⟨rfl, rfl⟩
theorem HX.waiting {w : World} {h : Nat} {m o f : Int} {sv nv : Value} {ss ns : List (List Int)} (hx : HX w h m o f sv nv ss ns) :
    Calls Try.prog 51 #[.pointer (some ⟨h, 0, none⟩)] w fun e w' => e = .returned (.int .i64 (octs ss)) ∧ w' = w := by
  obtain ⟨svs, hs1, hs2⟩ := hx.sl
  have h3s : ∀ x ∈ ss, x.length ≤ 300 := fun x h => by have := hx.len x (.inl h); omega
  have hc := hx.cnt
  have q1 := size_of (w := w) hs1 hs2 (by omega) h3s
  have c2 := hx.blk.cell 2 rfl
  clear hx hs1 hs2 h3s
  go_enter Try.func51, Try.ntmps51
  go_wp2_with fail
  refine q1.mono ?_
  rintro e w' ⟨rfl, rfl⟩
  go_wp2
  go_ret
  exact ⟨rfl, rfl⟩
/-- How many octets the next one has. -/
def size1 (ns : List (List Int)) : Int := match ns with | [] => 0 | x :: _ => x.length
theorem HX.size {w : World} {h : Nat} {m o f : Int} {sv nv : Value} {ss ns : List (List Int)} (hx : HX w h m o f sv nv ss ns) :
    Calls Try.prog 80 #[.pointer (some ⟨h, 0, none⟩)] w fun e w' => e = .returned (.int .i64 (size1 ns)) ∧ w' = w := by
  have q1 := hx.nexts
  cases ns with
  | nil =>
    clear hx
    go_enter Try.func80, Try.ntmps80
    go_wp2_with fail
    refine q1.mono ?_
    rintro e w' ⟨rfl, rfl⟩
    go_wp2
    go_ret
    exact ⟨rfl, rfl⟩
  | cons x ns =>
    obtain ⟨vvs, hn1, hn2⟩ := hx.nl
    obtain ⟨y, nvs, rfl⟩ : ∃ y nvs, vvs = y :: nvs := by
      cases vvs with
      | nil => have := hn2.1; simp at this
      | cons y nvs => exact ⟨y, nvs, rfl⟩
    obtain ⟨gx, cx, csx, hy, -, hBx, hcx⟩ := hn2.2 0 x rfl
    obtain rfl : y = _ := by simpa using hy
    obtain ⟨g, o, nc, rfl, h0⟩ := hn1.cell 0 _ rfl
    have c2 := hx.blk.cell 4 rfl
    have hz : (((ns.length + 1 : Nat) : Int) == 0) = false := by simp; omega
    have hz2 : (0 : Int) < ((nvs.length + 1 : Nat) : Int) := by omega
    simp only [List.length_cons] at c2 q1
    simp only [Nat.add_zero] at h0
    show Calls Try.prog 80 _ w fun e w' => e = .returned (.int .i64 (x.length : Int)) ∧ w' = w
    clear hx hn1 hn2 hy hBx hcx
    go_enter Try.func80, Try.ntmps80
    go_wp2_with fail
    refine q1.mono ?_
    rintro e w' ⟨rfl, rfl⟩
    go_wp2
    go_ret
    exact ⟨rfl, rfl⟩
theorem HX.at_none {w : World} {h : Nat} {m o f : Int} {sv nv : Value} {ss ns : List (List Int)} (hx : HX w h m o f sv nv ss ns) (i : Int) (hi : i < 0 ∨ (ss.length : Int) ≤ i) :
    Calls Try.prog 81 #[.pointer (some ⟨h, 0, none⟩), .int .i64 i] w fun e w' => e = .returned (.tuple #[.int .u8 0, .slice none 0 0, .int .i64 2]) ∧ w' = w := by
  have q1 := hx.sent
  clear hx
  by_cases hneg : i < 0
  · clear hi
    go_enter Try.func81, Try.ntmps81
    go_wp2
    refine bodyPost_ret (v := .tuple #[.int .u8 0, .slice none 0 0, .int .i64 2]) (by simp [results, Try.results81, go_sem]) rfl ?_
    exact ⟨rfl, rfl⟩
  · have hge : (ss.length : Int) ≤ i := by omega
    clear hi
    go_enter Try.func81, Try.ntmps81
    go_wp2_with fail
    refine q1.mono ?_
    rintro e w' ⟨rfl, rfl⟩
    go_wp2
    refine bodyPost_ret (v := .tuple #[.int .u8 0, .slice none 0 0, .int .i64 2]) (by simp [results, Try.results81, go_sem]) rfl ?_
    exact ⟨rfl, rfl⟩
set_option maxHeartbeats 1000000 in
theorem HX.at_ok {w : World} {h : Nat} {m o f : Int} {sv nv : Value} {ss ns : List (List Int)} (hx : HX w h m o f sv nv ss ns) (i : Nat) (x : List Int) (hi : ss[i]? = some x) :
    Calls Try.prog 81 #[.pointer (some ⟨h, 0, none⟩), .int .i64 i] w fun e w' => ∃ (g8 c8 : Nat) (cs8 : List Value), e = .returned (.tuple #[.int .u8 ((f + i) % 128), .slice (some ⟨g8, 0, none⟩) x.length c8, .int .i64 0]) ∧ Below w.heap.size w w' ∧ Blk w' g8 cs8 5 ∧ (∀ (j : Nat) (u : Value), (x.map (Value.int .u8))[j]? = some u → cs8[j]? = some u) ∧ w.heap.size ≤ g8 := by
  have q1 := hx.sent
  have hlt : i < ss.length := (List.getElem?_eq_some_iff.1 hi).1
  obtain ⟨svs, hs1, hs2⟩ := hx.sl
  obtain ⟨gx, cx, csx, hy, -, hBx, hcx⟩ := hs2.2 i x hi
  obtain ⟨g, o', nc, rfl, h0⟩ := hs1.cell i _ hy
  have c2 := hx.blk.cell 2 rfl
  have c3 := hx.blk.cell 3 rfl
  have hl : 1 ≤ x.length ∧ x.length ≤ 400 := by have := hx.len x (.inl (List.mem_of_getElem? hi)); omega
  have hcl := fun W (hW : ∃ n, W = w.drewN n) => clone_ad ⟨gx, 0, none⟩ x.length cx (x.map (Value.int .u8)) W (fun j u hj => by obtain ⟨n, rfl⟩ := hW; rw [hadd]; exact hBx.cell j (hcx j u hj)) (by rw [List.length_map]) (by omega) (by omega) (fun u hu => by obtain ⟨n, -, rfl⟩ := List.mem_map.1 hu; rfl)
  have hf := hx.fin
  have hcn := hx.win
  have hes := hs2.1
  have hw0 : IntKind.i64.wrap f = f := wrapH _ (by omega)
  have hw1 : IntKind.i64.wrap (f + (i : Int)) = f + i := wrapH _ (by omega)
  have hlt1 : ¬ ((ss.length : Int) ≤ (i : Int)) := by omega
  have hlt2 : (i : Int) < (svs.length : Int) := by omega
  have hlt3 : ¬ ((i : Int) < 0) := by omega
  have hlt4 : (0 : Int) ≤ (i : Int) := by omega
  have bx := hx.blk
  have hbx := Lib.hid bx
  have hrest := Lib.hid (And.intro hlt (And.intro hf hcn))
  clear hx hs1 hs2 hy hBx hcx hi bx hlt hcn hes
  go_enter Try.func81, Try.ntmps81
  go_upto_region 3 with fail
  · refine q1.mono ?_
    rintro e w' ⟨rfl, rfl⟩
    go_upto_region 3 with fail
    have hcl2 := hcl w'.drew ⟨1, rfl⟩
    clear hcl
    go_region_with (first | (go_at_call 91; refine (at_any _ _).mono ?_; rintro e w9 ⟨rfl, rfl⟩) | (go_at_call 70; refine hcl2.mono ?_; rintro e w8 ⟨g8, c8, cs8, rfl, hb8, hg8, hB8, hc8⟩))
    all_goals go_wp2
    all_goals refine bodyPost_ret (v := .tuple #[.int .u8 ((f + i) % 128), .slice (some ⟨g8, 0, none⟩) x.length c8, .int .i64 0]) (by simp [results, Try.results81, go_sem]) rfl ?_
    all_goals exact ⟨g8, c8, cs8, rfl, (below_drewN (Below.refl _ _) 1).trans (hb8.mono (Nat.le_refl _)), hB8, hc8, hg8⟩
end Go.Proofs.Ytadheikcgdhcdaa
