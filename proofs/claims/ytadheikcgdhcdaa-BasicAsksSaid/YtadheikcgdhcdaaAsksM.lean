/-
  BasicAsks, the law itself.
-/
import Derived.Test.YtadheikcgdhcdaaAsks
namespace Go.Proofs.Ytadheikcgdhcdaa
open Go.RowKit
set_option linter.unusedVariables false
set_option linter.unusedSimpArgs false

structure AK (w0 w : World) (b h : Nat) (bib : Bool) (last : Int) (asked : Bool) : Prop where
  bs : BS w b h true bib last asked (-1) false false false false
  hb : HB w h 5 1000 (.slice none 0 0) 0 (.slice none 0 0)
  bel : Below w0.heap.size w0 w
  ne : b ≠ h
  lo : w0.heap.size ≤ b
theorem AK.step {w0 w w' : World} {b h : Nat} {bib bib' : Bool} {last last' : Int} {asked asked' : Bool} (k : AK w0 w b h bib last asked) (hB : BS w' b h true bib' last' asked' (-1) false false false false) (hF : Fr (· = b) w w') : AK w0 w' b h bib' last' asked' :=
  ⟨hB, Blk.fr k.hb hF (fun e => k.ne e.symm), k.bel.trans (hF.below k.bel.size (fun q hq => by rw [hq]; exact k.lo)), k.ne, k.lo⟩
theorem AK.alloc {w0 w : World} {b h : Nat} {bib : Bool} {last : Int} {asked : Bool} (k : AK w0 w b h bib last asked) (o : Obj) : AK w0 (w.alloc o) b h bib last asked :=
  ⟨Blk.alloc k.bs o, Blk.alloc k.hb o, k.bel.alloc k.bel.size o, k.ne, k.lo⟩
theorem AK.below {w0 w w' : World} {b h : Nat} {bib : Bool} {last : Int} {asked : Bool} (k : AK w0 w b h bib last asked) (hb : Below w.heap.size w w') : AK w0 w' b h bib last asked :=
  ⟨Blk.below k.bs hb, Blk.below k.hb hb, bthen k.bel hb, k.ne, k.lo⟩
theorem wrap8 (n : Int) (h : 0 ≤ n ∧ n ≤ 255) : IntKind.u8.wrap n = n := by
  simp [IntKind.wrap, IntKind.bits, IntKind.signed]
  omega
theorem three_at (w : World) (x y z : Int) : ∀ j u, ([.int .u8 x, .int .u8 y, .int .u8 z] : List Value)[j]? = some u → (w.alloc (.cells #[.int .u8 x, .int .u8 y, .int .u8 z] 5 (3, 4))).cell? ⟨w.heap.size, j, none⟩ = some u := fun j u hj => by
  rw [← hadd]
  exact World.news_of_block (B := w.heap.size) (cs := #[.int .u8 x, .int .u8 y, .int .u8 z]) (t := 5) (fr := (3, 4)) (by show (w.heap.push _)[w.heap.size]? = _; simp) j u hj
theorem new_str (w : World) (g c : Nat) (h : ∀ j u, ([.int .u8 110, .int .u8 101, .int .u8 119] : List Value)[j]? = some u → w.cell? ⟨g, j, none⟩ = some u) : (convert 33 9 (.slice (some ⟨g, 0, none⟩) 3 c)).run Try.prog w = .ok (.string ⟨#[110, 101, 119]⟩) w :=
  run_convert_bytes_back w 33 9 5 ⟨g, 0, none⟩ c [110, 101, 119] Try.underlying33 Try.underlying5 Try.underlying9 (fun j hj => by
    rw [hadd]
    refine h j _ ?_
    have hj3 : j < 3 := hj
    rcases (by omega : j = 0 ∨ j = 1 ∨ j = 2) with rfl | rfl | rfl <;> rfl)

theorem field_bib (l n : Int) (x y : Bool) (w : World) : (Instr.field 69 (.agg #[.int .u8 l, .int .u8 n, .bool x, .bool y, .int .u8 0, .int .u8 0, .bool false, .slice none 0 0]) 2).run Try.prog w = .ok (.bool x) w := by kernel_rfl

set_option maxRecDepth 100000 in
set_option maxHeartbeats 8000000 in
theorem asks_row (n m : Int) (w : World) (hn : 0 ≤ n ∧ n ≤ 255) (hm : 0 ≤ m ∧ m ≤ 255) :
    Calls Try.prog 8 #[.int .u8 n, .int .u8 m] w fun e w' => e = .returned (.bool true) ∧ Below w.heap.size w w' := by
  have hwn : IntKind.i64.wrap n = n := wrapB _ (by omega)
  have hwm : IntKind.i64.wrap m = m := wrapB _ (by omega)
  have kc := fun (w : World) (C : Array Value) (n c : Nat) => Lib.run_convert_bytes_const (P := Try.prog) w 33 5 C n c Try.underlying33 Try.underlying5
  have hfl := field_bib
  go_enter Try.func8, Try.ntmps8
  go_wp2_with fail
  refine (awake11_any _).mono ?_
  rintro e w0 ⟨rfl, hB0⟩
  go_wp2_with fail
  refine (bnew_is 5 1000 w0).mono ?_
  rintro e w1 ⟨b, h, rfl, hh, hb, hbh, hB, hH, hBel⟩
  have hA : AK w w1 b h true 127 false := ⟨hB, hH, bthen hB0 hBel, hbh, Nat.le_trans hB0.size hb⟩
  clear hB hH hBel hB0 hh hb hbh
  go_wp2_with fail
  obtain ⟨K, hK⟩ : ∃ K : Nat, n % 50 = K := ⟨(n % 50).toNat, by omega⟩
  have hK50 : K < 50 := by omega
  obtain ⟨M, hM⟩ : ∃ M : Nat, m % 20 = M := ⟨(m % 20).toNat, by omega⟩
  have hM20 : M < 20 := by omega
  rw [hK]
  clear hK
  go_loopw [7] (fun i wr => ∃ q : Nat, q ≤ K ∧ i = .int .i64 q ∧ AK w wr b h true (((q : Int) + 127) % 128) false) (fun i _ => 100 - (intOf i).toNat)
  case atStart => exact ⟨0, by omega, rfl, hA⟩
  case round =>
    clear hA
    obtain ⟨q, hq, rfl, hA⟩ := hrel
    by_cases hlt : q < K
    · have hlt2 : (q : Int) < (K : Int) := by omega
      have hu : IntKind.u8.wrap (q : Int) = q := wrap8 _ (by omega)
      have hA2 := hA.alloc (.cells #[.int .u8 97, .int .u8 98, .int .u8 99] 5 (3, 4))
      have hlb := Blk.lt hA.bs
      have hlast : Hid (((q : Int)) = (((q + 1 : Nat) : Int) + 127) % 128) := Lib.hid (by omega)
      go_wp2_with fail
      refine (take_yes b h wr.heap.size 3 true true _ (q : Int) 0 false false (-1) false false false false _ _ hA2.bs (by omega) (three_at wr 97 98 99) rfl (by simp [Value.oneCell']) (by omega)).mono ?_
      rintro e w5 ⟨g8, c8, rfl, hBs, hF, -, -⟩
      have hA5 := hA2.step hBs hF
      rw [hlast.out] at hA5
      clear hA hA2 hBs hF
      go_wp2
      exact ⟨⟨q + 1, by omega, by go_num, hA5⟩, by simp [intOf]; omega⟩
    · have hqK : q = K := by omega
      subst hqK
      clear hlt
      go_wp2_with fail
      go_loopw [8] (fun i wx => ∃ j : Nat, j ≤ M + 1 ∧ i = .int .i64 j ∧ ((j = 0 ∧ AK w wx b h true (((q : Int) + 127) % 128) false) ∨ (0 < j ∧ AK w wx b h false (((q : Int) + 127) % 128) true))) (fun i _ => 100 - (intOf i).toNat)
      case atStart => exact ⟨0, by omega, rfl, .inl ⟨rfl, hA⟩⟩
      case round =>
        clear hA
        obtain ⟨j, hj, rfl, hS⟩ := hrel
        have hw1 : IntKind.i64.wrap ((q : Int) + 1) = (q : Int) + 1 := wrapB _ (by omega)
        have hw2 : IntKind.i64.wrap ((q : Int) + 1 + j) = (q : Int) + 1 + j := wrapB _ (by omega)
        have hw3 : IntKind.u8.wrap ((q : Int) + 1 + j) = (q : Int) + 1 + j := wrap8 _ (by omega)
        by_cases hle : (j : Int) ≤ (M : Int)
        case pos =>
          rcases hS with ⟨hj0, hA⟩ | ⟨hj0, hA⟩
          all_goals
            replace hj0 := Lib.hid hj0
            have hA2 := hA.alloc (.cells #[.int .u8 120, .int .u8 121, .int .u8 122] 5 (3, 4))
            go_wp2_with fail
          · refine (take_no b h wr.heap.size 3 _ ((q : Int) + 1 + j) false false _ hA2.bs (beq_false_of_ne (by have := hj0.out; omega)) (beq_false_of_ne (by have := hj0.out; omega)) (beq_false_of_ne (by have := hj0.out; omega))).mono ?_
            rintro e w5 ⟨rfl, hBs, hF⟩
            have hA5 := hA2.step hBs hF
            clear hA hA2 hBs hF
            go_wp2_with fail
            refine (fill_is b h false _ true false false w5 hA5.bs hA5.hb).mono ?_
            rintro e w6 ⟨rfl, hb6⟩
            have hA6 := hA5.below hb6
            clear hA5 hb6
            go_wp2
            exact ⟨⟨j + 1, by omega, by go_num, .inr ⟨by omega, hA6⟩⟩, by simp [intOf]; omega⟩
          · refine (take_wait b h wr.heap.size 3 _ ((q : Int) + 1 + j) false false _ hA2.bs).mono ?_
            rintro e w5 ⟨rfl, hBs, hF⟩
            have hA5 := hA2.step hBs hF
            clear hA hA2 hBs hF
            go_wp2_with fail
            refine (fill_is b h false _ true false false w5 hA5.bs hA5.hb).mono ?_
            rintro e w6 ⟨rfl, hb6⟩
            have hA6 := hA5.below hb6
            clear hA5 hb6
            go_wp2
            exact ⟨⟨j + 1, by omega, by go_num, .inr ⟨by omega, hA6⟩⟩, by simp [intOf]; omega⟩
        case neg =>
          have hA : AK w wr b h false (((q : Int) + 127) % 128) true := by
            rcases hS with ⟨hj0, hA⟩ | ⟨hj0, hA⟩
            · omega
            · exact hA
          have hA2 := hA.alloc (.cells #[.int .u8 110, .int .u8 101, .int .u8 119] 5 (3, 4))
          have hlb := Blk.lt hA.bs
          have hu : IntKind.u8.wrap (q : Int) = q := wrap8 _ (by omega)
          have hwq : IntKind.i64.wrap (q : Int) = q := wrapB _ (by omega)
          clear hS hw1 hw2 hw3
          go_wp2_with fail
          refine (take_yes b h wr.heap.size 3 true false _ (q : Int) 0 false true (-1) false false false false _ _ hA2.bs (by omega) (three_at wr 110 101 119) rfl (by simp [Value.oneCell']) (by omega)).mono ?_
          rintro e w5 ⟨g8, c8, rfl, hBs, hF, hx5, -⟩
          have hA5 := hA2.step hBs hF
          have hst := new_str w5 g8 c8 hx5
          clear hA hA2 hBs hF hx5
          go_wp2_with fail
          refine (taken_is b h false _ false false false w5 hA5.bs).mono ?_
          rintro e _ ⟨rfl, rfl⟩
          go_wp2_with fail
          refine (fill_is b h false _ false false false w5 hA5.bs hA5.hb).mono ?_
          rintro e w6 ⟨rfl, hb6⟩
          have hA6 := hA5.below hb6
          go_wp2
          go_ret
          exact ⟨rfl, hA6.bel⟩
end Go.Proofs.Ytadheikcgdhcdaa
