/-
  A hold with many messages: how many octets they have.
-/
import Derived.Test.YtadheikcgdhcdaaSS
import Derived.Test.YtadheikcgdhcdaaBas3
namespace Go.Proofs.Ytadheikcgdhcdaa
open Go.RowKit
set_option linter.unusedVariables false
set_option linter.unusedSimpArgs false

/-- How many octets so many messages have. -/
def octs (xs : List (List Int)) : Int := (xs.map fun x => (x.length : Int)).sum
theorem octs_snoc (xs : List (List Int)) (x : List Int) : octs (xs ++ [x]) = octs xs + x.length := by simp [octs]
theorem octs_bd (xs : List (List Int)) (h : ∀ x ∈ xs, x.length ≤ 300) : 0 ≤ octs xs ∧ octs xs ≤ 300 * xs.length := by
  induction xs with
  | nil => simp [octs]
  | cons x xs ih =>
    have h1 := ih (fun y hy => h y (List.mem_cons_of_mem _ hy))
    have h2 := h x (List.mem_cons_self ..)
    simp only [octs, List.map_cons, List.sum_cons, List.length_cons] at *
    omega
theorem take_snoc {α : Type} (xs : List α) (k : Nat) (x : α) (h : xs[k]? = some x) : xs.take (k + 1) = xs.take k ++ [x] := by
  rw [List.take_add_one, h]; rfl
theorem wrapH (n : Int) (h : -1000000000 ≤ n ∧ n ≤ 1000000000) : IntKind.i64.wrap n = n := by
  simp [IntKind.wrap, IntKind.bits, IntKind.signed]
  split <;> omega

theorem size_gen (v : Value) (vs : List Value) (xs : List (List Int)) (base : Nat) (w : World) (hv : SS w base 33 v vs) (hl : xs.length = vs.length) (hm : ∀ (i : Nat) (x : List Int), xs[i]? = some x → ∃ (g c : Nat), vs[i]? = some (.slice (some ⟨g, 0, none⟩) x.length c)) (hb : vs.length ≤ 1000) (h3 : ∀ x ∈ xs, x.length ≤ 300) :
    Calls Try.prog 86 #[v] w fun e w' => e = .returned (.int .i64 (octs xs)) ∧ w' = w := by
  rcases hv with ⟨rfl, rfl⟩ | ⟨g, o, cap, cs, rfl, hbg, hB, h1, h2, h4, h5⟩
  · obtain rfl : xs = [] := List.eq_nil_of_length_eq_zero (by simpa using hl)
    exact size_same w
  · have hcell : ∀ i x, xs[i]? = some x → ∃ g' c', w.cell? ⟨g, o + i, none⟩ = some (.slice (some ⟨g', 0, none⟩) x.length c') := fun i x hx => by
      obtain ⟨g', c', hg⟩ := hm i x hx
      have hi : i < vs.length := (List.getElem?_eq_some_iff.1 hg).1
      exact ⟨g', c', hB.cell (o + i) (by rw [h5 i hi]; exact hg)⟩
    have HC := Lib.hid hcell
    have H3 := Lib.hid h3
    obtain ⟨n, hn⟩ : ∃ n, vs.length = n := ⟨_, rfl⟩
    rw [hn] at hb hl ⊢
    have HL := Lib.hid hl
    clear hcell hm h5 hB h1 h4 h3 hl
    go_enter Try.func86, Try.ntmps86
    go_wp2
    go_loop [3, 8] (fun s i => ∃ k : Nat, k ≤ n ∧ i = .int .i64 k ∧ s = .int .i64 (octs (xs.take k))) (fun _ i => n - (intOf i).toNat)
    case atStart => exact ⟨0, by omega, rfl, rfl⟩
    case round =>
      obtain ⟨k, hk, rfl, rfl⟩ := hrel
      by_cases hlt : k < n
      · obtain ⟨x, hx⟩ : ∃ x, xs[k]? = some x := ⟨_, List.getElem?_eq_getElem (by rw [HL.out]; exact hlt)⟩
        obtain ⟨g', c', hc⟩ := HC.out k x hx
        have hs := octs_snoc (xs.take k) x
        rw [← take_snoc xs k x hx] at hs
        have hbd := octs_bd (xs.take k) (fun y hy => H3.out y (List.mem_of_mem_take hy))
        have hx3 := H3.out x (List.mem_of_getElem? hx)
        have hlen : (xs.take k).length ≤ 1000 := by rw [List.length_take]; omega
        have hw : IntKind.i64.wrap (octs (xs.take k) + x.length) = octs (xs.take k) + x.length := wrapH _ (by omega)
        have hs := Lib.hid hs
        generalize octs (xs.take k) = q at *
        clear hx hbd hlen
        go_wp2
        exact ⟨⟨k + 1, by omega, by go_num, by rw [hs.out]⟩, by simp [intOf]; omega⟩
      · have hkn : k = n := by omega
        subst hkn
        rw [List.take_of_length_le (by rw [HL.out]; exact Nat.le_refl _)]
        go_wp2
        go_ret
        exact ⟨rfl, rfl⟩

/-- So many messages, each in a block of its own of octets. -/
def Msgs (w : World) (base : Nat) (vs : List Value) (xs : List (List Int)) : Prop :=
  xs.length = vs.length ∧ ∀ (i : Nat) (x : List Int), xs[i]? = some x → ∃ (g c : Nat) (cs : List Value), vs[i]? = some (.slice (some ⟨g, 0, none⟩) x.length c) ∧ base ≤ g ∧ Blk w g cs 5 ∧ ∀ (j : Nat) (u : Value), (x.map (Value.int .u8))[j]? = some u → cs[j]? = some u
theorem Msgs.fr {S : Nat → Prop} {w w' : World} {base : Nat} {vs : List Value} {xs : List (List Int)} (h : Msgs w base vs xs) (hF : Fr S w w') (hS : ∀ g cs, Blk w g cs 5 → base ≤ g → ¬ S g) : Msgs w' base vs xs :=
  ⟨h.1, fun i x hx => by
    obtain ⟨g, c, cs, h1, h2, h3, h4⟩ := h.2 i x hx
    exact ⟨g, c, cs, h1, h2, h3.fr hF (hS g cs h3 h2), h4⟩⟩
/-- A hold: what waits, and what wasn't sent yet. -/
structure HG (w : World) (base h : Nat) (m o f : Int) (sv nv : Value) (ss ns : List (List Int)) : Prop where
  blk : Blk w h [.int .i64 m, .int .i64 o, sv, .int .u8 f, nv] 105
  sl : ∃ svs, SS w base 33 sv svs ∧ Msgs w base svs ss
  nl : ∃ nvs, SS w base 33 nv nvs ∧ Msgs w base nvs ns
  sep : ∀ g, sv.ownBlock = some g → nv.ownBlock = some g → False
  lt : h < base
  big : base ≤ w.heap.size
theorem HG.drewN {w : World} {base h : Nat} {m o f : Int} {sv nv : Value} {ss ns : List (List Int)} (k : HG w base h m o f sv nv ss ns) (n : Nat) : HG (w.drewN n) base h m o f sv nv ss ns :=
  ⟨k.blk.drewN n, k.sl, k.nl, k.sep, k.lt, k.big⟩
theorem size_of {w : World} {base : Nat} {v : Value} {vs : List Value} {xs : List (List Int)} (hv : SS w base 33 v vs) (hm : Msgs w base vs xs) (hb : xs.length ≤ 1000) (h3 : ∀ x ∈ xs, x.length ≤ 300) :
    Calls Try.prog 86 #[v] w fun e w' => e = .returned (.int .i64 (octs xs)) ∧ w' = w :=
  size_gen v vs xs base w hv hm.1 (fun i x hx => by obtain ⟨g, c, cs, h1, _⟩ := hm.2 i x hx; exact ⟨g, c, h1⟩) (by rw [← hm.1]; exact hb) h3
theorem octets_gen {base h : Nat} {m o f : Int} {sv nv : Value} {ss ns : List (List Int)} (w : World) (k : HG w base h m o f sv nv ss ns) (hb : ss.length ≤ 1000 ∧ ns.length ≤ 1000) (h3 : (∀ x ∈ ss, x.length ≤ 300) ∧ ∀ x ∈ ns, x.length ≤ 300) :
    Calls Try.prog 69 #[.pointer (some ⟨h, 0, none⟩)] w fun e w' => e = .returned (.int .i64 (octs ss + octs ns)) ∧ ∃ n, w' = w.drewN n := by
  have c2 := k.blk.cell 2 rfl
  have c4 := k.blk.cell 4 rfl
  obtain ⟨svs, hs1, hs2⟩ := k.sl
  obtain ⟨nvs, hn1, hn2⟩ := k.nl
  have q1 : ∀ n, Calls Try.prog 86 #[sv] (w.drewN n) fun e w' => e = .returned (.int .i64 (octs ss)) ∧ w' = w.drewN n := fun n => size_of (w := w.drewN n) hs1 hs2 hb.1 h3.1
  have q2 : ∀ n, Calls Try.prog 86 #[nv] (w.drewN n) fun e w' => e = .returned (.int .i64 (octs ns)) ∧ w' = w.drewN n := fun n => size_of (w := w.drewN n) hn1 hn2 hb.2 h3.2
  have d1 := octs_bd ss h3.1
  have d2 := octs_bd ns h3.2
  have hw : IntKind.i64.wrap (octs ss + octs ns) = octs ss + octs ns := wrapH _ (by omega)
  generalize octs ss = a at *
  generalize octs ns = b at *
  clear k hs1 hs2 hn1 hn2 d1 d2 hb h3
  go_enter Try.func69, Try.ntmps69
  go_upto_region 3 with fail
  go_quiet (first | (go_at_call_of 86 sv; exact Calls.quiet_of_same (q1 _)) | (go_at_call_of 86 nv; exact Calls.quiet_of_same (q2 _)))
  go_wp2
  go_ret
  exact ⟨rfl, _, rfl⟩
end Go.Proofs.Ytadheikcgdhcdaa
