/-
  UnitRights: which units may be, and why others may not.
-/
import Derived.Laws.BytesArg
import Derived.Test.YtpgalefpccgpfaaFlat
import Derived.Test.YtpgalefpccgpfaaUnitE
namespace Go.Proofs.Ytpgalefpccgpfaa
open Go.RowKit
set_option linter.unusedVariables false
set_option linter.unusedSimpArgs false

theorem encV_ex : encV 1 2 true false (bodyV 1 2 false []) = [.int .u8 129, .int .u8 2, .int .u8 1, .int .u8 2] := by
  show _ = _
  kernel_rfl
set_option maxHeartbeats 1000000 in
theorem awake_is (w : World) : Calls Try.prog 8 #[] w fun e w' => e = .returned (.bool true) ∧ Below w.heap.size w w' := by
  go_enter Try.func8, Try.ntmps8
  go_wp2_with fail
  refine (encode_is 1 2 (by decide) (by decide) true false 1 2 false none 0 0 [] w (fun h => by cases h) (by rfl)).mono ?_
  rintro e w1 ⟨v, rfl, hown, hB⟩
  rw [encV_ex] at hown
  rw [show 3 + (bodyV 1 2 false []).length = 4 from rfl] at hown
  obtain ⟨g, cap, rfl, -, -⟩ := hown.form (by decide)
  have c0 := hown.cellAt 0 (by decide)
  have c1 := hown.cellAt 1 (by decide)
  have c2 := hown.cellAt 2 (by decide)
  have c3 := hown.cellAt 3 (by decide)
  have hcv := run_convert_bytes_arg (P := Try.prog) w1 22 5 Try.underlying22 Try.underlying5 g 0 4 cap [129, 2, 1, 2] rfl (fun i hi => by
    rcases i with _ | _ | _ | _ | i
    · exact c0
    · exact c1
    · exact c2
    · exact c3
    · omega) 9 Try.underlying9
  rw [show strOfNums [129, 2, 1, 2] = { data := #[129, 2, 1, 2] } from rfl] at hcv
  go_wp2
  go_ret
  exact ⟨rfl, hB⟩

def nearV (how m n : Int) : Int := if 64 ≤ how then Int.tmod n m else n
theorem near_is (b f : Int) (bi fi : Bool) (k s : Int) (wd : Bool) (a : Option Addr) (len cap : Nat) (how : Int) (w : World) : Calls Try.prog 9 #[.agg #[.int .u8 b, .int .u8 f, .bool bi, .bool fi, .int .u8 k, .int .u8 s, .bool wd, .slice a len cap], .int .u8 how] w fun e w' => e = .returned (.agg #[.int .u8 (nearV how 128 b), .int .u8 (nearV how 128 f), .bool bi, .bool fi, .int .u8 (nearV how 3 k), .int .u8 (nearV how 8 s), .bool wd, .slice a len cap]) ∧ Below w.heap.size w w' := by
  by_cases h : 64 ≤ how
  · simp only [nearV, if_pos h]
    go_enter Try.func9, Try.ntmps9
    go_wp2
    refine bodyPost_ret (v := .agg #[.int .u8 (Int.tmod b 128), .int .u8 (Int.tmod f 128), .bool bi, .bool fi, .int .u8 (Int.tmod k 3), .int .u8 (Int.tmod s 8), .bool wd, .slice a len cap]) (by simp [results, Try.results9, go_sem]) rfl ?_
    exact ⟨rfl, ((Below.refl _ _).alloc (Nat.le_refl _) _).alloc (by simp) _⟩
  · simp only [nearV, if_neg h]
    go_enter Try.func9, Try.ntmps9
    go_wp2
    all_goals first | omega | skip
    refine bodyPost_ret (v := .agg #[.int .u8 b, .int .u8 f, .bool bi, .bool fi, .int .u8 k, .int .u8 s, .bool wd, .slice a len cap]) (by simp [results, Try.results9, go_sem]) rfl ?_
    exact ⟨rfl, ((Below.refl _ _).alloc (Nat.le_refl _) _).alloc (by simp) _⟩
theorem nearV_nonneg {how m n : Int} (h : 0 ≤ n) (hm : 0 ≤ m) : 0 ≤ nearV how m n := by
  unfold nearV
  split
  · exact Int.tmod_nonneg _ h
  · exact h

theorem rights_long (b f : Int) (bi fi : Bool) (k s : Int) (wd : Bool) (a : Option Addr) (len cap : Nat) (how : Int) (h : 400 < len) (w : World) : Calls Try.prog 3 #[.agg #[.int .u8 b, .int .u8 f, .bool bi, .bool fi, .int .u8 k, .int .u8 s, .bool wd, .slice a len cap], .int .u8 how] w fun e w' => e = .returned (.bool true) ∧ Below w.heap.size w w' := by
  have h1 : (400 : Int) < len := by omega
  have hA0 : Below w.heap.size w (w.alloc (.cells #[.int .u8 b, .int .u8 f, .bool bi, .bool fi, .int .u8 k, .int .u8 s, .bool wd, .slice a len cap] 24)) := (Below.refl _ _).alloc (Nat.le_refl _) _
  have hK0 := Blk.new w [.int .u8 b, .int .u8 f, .bool bi, .bool fi, .int .u8 k, .int .u8 s, .bool wd, .slice a len cap] 24
  go_enter Try.func3, Try.ntmps3
  go_wp2_with fail
  refine (awake_is _).mono ?_
  rintro e w1 ⟨rfl, hb1⟩
  have hK1 := hK0.below hb1
  have c7 := hK1.cell 7 rfl
  go_wp2_with fail
  refine (awake_is _).mono ?_
  rintro e w2 ⟨rfl, hb2⟩
  go_wp2
  go_ret
  exact ⟨rfl, (hA0.trans (hb1.mono (by simp))).trans (hb2.mono ((hA0.trans (hb1.mono (by simp))).size))⟩
/-- All of Encode: its error is Right's, and a unit that may not be has no octets. -/
def EncAll (w : World) (r : Int) (e : Ending) (w' : World) : Prop := ∃ x m c, e = .returned (.tuple #[.slice x m c, .int .i64 r]) ∧ Below w.heap.size w w' ∧ (r ≠ 0 → m = 0)
theorem encode_all (b f : Int) (hb0 : 0 ≤ b) (hf0 : 0 ≤ f) (bi fi : Bool) (k s : Int) (wd : Bool) (a : Option Addr) (len cap : Nat) (infos : List Value) (w : World) (hr : 0 < len → Rowv w a len infos) : Calls Try.prog 10 #[.agg #[.int .u8 b, .int .u8 f, .bool bi, .bool fi, .int .u8 k, .int .u8 s, .bool wd, .slice a len cap]] w (EncAll w (rightV b f k s len)) := by
  by_cases h : rightV b f k s len = 0
  · refine (encode_is b f hb0 hf0 bi fi k s wd a len cap infos w (fun h2 => hr ?_) h).mono ?_
    · unfold rightV at h
      split at h
      · cases h
      · split at h
        · cases h
        · omega
    · rintro e w' ⟨v, rfl, hown, hB⟩
      obtain ⟨g, c, rfl, -, -⟩ := hown.form (by omega)
      exact ⟨_, _, _, by rw [h], hB, fun hn => absurd h hn⟩
  · refine (encode_bad b f bi fi k s wd a len cap w h).mono ?_
    rintro e w' ⟨rfl, hB⟩
    exact ⟨_, _, _, rfl, hB, fun _ => rfl⟩

set_option maxHeartbeats 1000000 in
theorem rights_short (b f : Int) (hb0 : 0 ≤ b) (hf0 : 0 ≤ f) (bi fi : Bool) (k s : Int) (wd : Bool) (a : Option Addr) (len cap : Nat) (infos : List Value) (how : Int) (h : len ≤ 400) (w : World) (hr : 0 < len → Rowv w a len infos) : Calls Try.prog 3 #[.agg #[.int .u8 b, .int .u8 f, .bool bi, .bool fi, .int .u8 k, .int .u8 s, .bool wd, .slice a len cap], .int .u8 how] w fun e w' => e = .returned (.bool true) ∧ Below w.heap.size w w' := by
  have h1 : (len : Int) ≤ 400 := by omega
  have hA0 : Below w.heap.size w (w.alloc (.cells #[.int .u8 b, .int .u8 f, .bool bi, .bool fi, .int .u8 k, .int .u8 s, .bool wd, .slice a len cap] 24)) := (Below.refl _ _).alloc (Nat.le_refl _) _
  have hK0 := Blk.new w [.int .u8 b, .int .u8 f, .bool bi, .bool fi, .int .u8 k, .int .u8 s, .bool wd, .slice a len cap] 24
  go_enter Try.func3, Try.ntmps3
  go_wp2_with fail
  refine (awake_is _).mono ?_
  rintro e w1 ⟨rfl, hb1⟩
  have hB1 := hA0.trans (hb1.mono (by simp))
  have hK1 := hK0.below hb1
  clear hK0 hb1 hA0
  have c0 := hK1.cell 0 rfl
  have c1 := hK1.cell 1 rfl
  have c2 := hK1.cell 2 rfl
  have c3 := hK1.cell 3 rfl
  have c4 := hK1.cell 4 rfl
  have c5 := hK1.cell 5 rfl
  have c6 := hK1.cell 6 rfl
  have c7 := hK1.cell 7 rfl
  have hn0 := nearV_nonneg (how := how) (m := 128) hb0 (by decide)
  have hn1 := nearV_nonneg (how := how) (m := 128) hf0 (by decide)
  go_upto_region 4 with (first
    | (go_at_call 9; refine (near_is _ _ _ _ _ _ _ _ _ _ _ _).mono ?_; rintro e w2 ⟨rfl, hb2⟩; have hB2 := bthen hB1 hb2; have hK2 := hK1.below hb2; clear c0 c1 c2 c3 c4 c5 c6 c7 hK1)
    | (refine wpList_store_row rfl 24 (.tmp 2) (.tmp 19) rfl w.heap.size #[.int .u8 (nearV how 128 b), .int .u8 (nearV how 128 f), .bool bi, .bool fi, .int .u8 (nearV how 3 k), .int .u8 (nearV how 8 s), .bool wd, .slice a len cap] rfl rfl 24 _ hK2 (by kernel_rfl) rfl (by simp [Value.oneCell']) ?_))
  have hK3 := hK2.row [.int .u8 (nearV how 128 b), .int .u8 (nearV how 128 f), .bool bi, .bool fi, .int .u8 (nearV how 3 k), .int .u8 (nearV how 8 s), .bool wd, .slice a len cap]
  have hB3 := below_row hB2 (Nat.le_refl _) #[.int .u8 (nearV how 128 b), .int .u8 (nearV how 128 f), .bool bi, .bool fi, .int .u8 (nearV how 3 k), .int .u8 (nearV how 8 s), .bool wd, .slice a len cap]
  generalize w2.setRow w.heap.size _ = w3 at *
  clear hK2 hB2 hB1 hb2
  generalize nearV how 128 b = b at *
  generalize nearV how 128 f = f at *
  generalize nearV how 3 k = k at *
  generalize nearV how 8 s = s at *
  have c0 := hK3.cell 0 rfl
  have c1 := hK3.cell 1 rfl
  have c2 := hK3.cell 2 rfl
  have c3 := hK3.cell 3 rfl
  have c4 := hK3.cell 4 rfl
  have c5 := hK3.cell 5 rfl
  have c6 := hK3.cell 6 rfl
  have c7 := hK3.cell 7 rfl
  go_wp2_with fail
  refine (encode_all b f hn0 hn1 bi fi k s wd a len cap infos w3 (fun h => (hr h).below hB3)).mono ?_
  rintro e w4 ⟨x, m, c, rfl, hb4, hm⟩
  have hB4 := bthen hB3 hb4
  have hK4 := hK3.below hb4
  clear c0 c1 c2 c3 c4 c5 c6 c7 hK3 hB3 hb4
  have c0 := hK4.cell 0 rfl
  have c1 := hK4.cell 1 rfl
  have c2 := hK4.cell 2 rfl
  have c3 := hK4.cell 3 rfl
  have c4 := hK4.cell 4 rfl
  have c5 := hK4.cell 5 rfl
  have c6 := hK4.cell 6 rfl
  have c7 := hK4.cell 7 rfl
  go_wp2_with fail
  refine (rright_any _ _ _ _ _ _ _ _ _ _ _).mono ?_
  rintro e w5 ⟨rfl, hb5⟩
  have hB5 := bthen hB4 hb5
  have hK5 := hK4.below hb5
  clear c0 c1 c2 c3 c4 c5 c6 c7 hK4 hB4 hb5
  have c0 := hK5.cell 0 rfl
  have c1 := hK5.cell 1 rfl
  have c2 := hK5.cell 2 rfl
  have c3 := hK5.cell 3 rfl
  have c4 := hK5.cell 4 rfl
  have c5 := hK5.cell 5 rfl
  have c6 := hK5.cell 6 rfl
  have c7 := hK5.cell 7 rfl
  go_wp2_with fail
  refine (right_any _ _ _ _ _ _ _ _ _ _ _).mono ?_
  rintro e w6 ⟨rfl, hb6⟩
  have hB6 := bthen hB5 hb6
  clear c0 c1 c2 c3 c4 c5 c6 c7 hK5 hB5 hb6
  generalize rightV b f k s len = r at *
  by_cases h0 : r = 0
  · subst h0
    go_wp2
    go_ret
    exact ⟨rfl, hB6⟩
  · have h2 : (r == 0) = false := by simp [h0]
    obtain rfl := hm h0
    go_wp2
    go_ret
    exact ⟨rfl, hB6⟩
open Go.ChangeShapes Go.WideShapes in
/-- A row of octets that came in. -/
theorem open_bytes {H : Type} {enc : TypeId × Value → H} {W : World} {fuel : Nat} {v : Value} {y : DataW H × List MemPlace} (h : DataW.trod enc Try.prog W 0 (fun _ => true) true fuel 22 [v] = some y) :
    ∃ a len cap, ∃ zs : List Int, v = .slice a len cap ∧ (0 < len → Rowv W a len (zs.map (.int .u8))) := by
  rcases open_ints Try.underlying22 Try.underlying5 (by kernel_rfl) h with ⟨hcs, _⟩ | ⟨x, l, c, zs, hcs, _, hl, hm, hz, _, hcell, hwz⟩
  · exact ⟨none, 0, 0, [], by simpa using hcs, fun h => absurd h (by decide)⟩
  · have hz2 : zs.length = c := by simpa using hz
    have hlen : (zs.take l).length = l := by rw [List.length_take]; omega
    refine ⟨some x, l, c, zs.take l, by simpa using hcs, fun h0 => ⟨by simpa using hlen, ?_, .inr ⟨x, rfl, h0, fun j u hj => ?_⟩⟩⟩
    · intro u hu
      obtain ⟨n, -, rfl⟩ := List.mem_map.1 hu
      rfl
    · rw [List.getElem?_map, Option.map_eq_some_iff] at hj
      obtain ⟨n, hn, rfl⟩ := hj
      have hjl : j < l := by
        have := (List.getElem?_eq_some_iff.1 hn).1
        omega
      rw [List.getElem?_take_of_lt hjl] at hn
      rw [hcell j (by omega), List.getD, hn]
      rfl
theorem rights_row (b f : Int) (bi fi : Bool) (k s : Int) (wd : Bool) (a : Option Addr) (len cap : Nat) (infos : List Int) (how : Int) (W : World) (hb0 : 0 ≤ b ∧ b ≤ 255) (hf0 : 0 ≤ f ∧ f ≤ 255) (hr : 0 < len → Rowv W a len (infos.map (.int .u8))) : Calls Try.prog 3 #[.agg #[.int .u8 b, .int .u8 f, .bool bi, .bool fi, .int .u8 k, .int .u8 s, .bool wd, .slice a len cap], .int .u8 how] W fun e w' => e = .returned (.bool true) ∧ Below W.heap.size W w' := by
  by_cases h : len ≤ 400
  · exact rights_short b f hb0.1 hf0.1 bi fi k s wd a len cap _ how h W hr
  · exact rights_long b f bi fi k s wd a len cap how (by omega) W
end Go.Proofs.Ytpgalefpccgpfaa
