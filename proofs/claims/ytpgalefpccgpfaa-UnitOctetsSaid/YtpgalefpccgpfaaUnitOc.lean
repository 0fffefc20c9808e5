/-
  UnitOctets: a unit's octets, and back.
-/
import Derived.Test.YtpgalefpccgpfaaUnitSW
import Derived.Test.YtpgalefpccgpfaaUnitPl
namespace Go.Proofs.Ytpgalefpccgpfaa
open Go.RowKit
set_option linter.unusedVariables false
set_option linter.unusedSimpArgs false

theorem dec_enc (b f : Int) (bi fi : Bool) (ys : List Int) (h : ys.length ≤ 273) : (decAll (encZ b f bi fi ys)).2.2.2.2.2.2.2.1 = 0 := by
  have hl : (encZ b f bi fi ys).length = 3 + ys.length := by simp [encZ]; omega
  have h2 : (encZ b f bi fi ys).getD 2 0 = if 63 < ys.length then 63 else (ys.length : Int) := rfl
  unfold decAll
  rw [hl, h2, if_neg (by omega), if_neg (by omega), if_neg]
  · split
    · rfl
    · split
      · rfl
      · split <;> rfl
  · intro hn
    apply hn
    rw [show 3 + ys.length - 3 = ys.length from by omega]
    split <;> omega
theorem dec_four (zs : List Int) (h : (decAll zs).2.2.2.2.2.2.2.1 = 0) : ∃ b f bi fi k s wd ys, (∀ a len cap w, Row w a len zs → len ≤ cap → Calls Try.prog 16 #[.slice a len cap] w (DecPost w (b, f, bi, fi, k, s, wd, 0, ys))) ∧ (∀ a len cap w, Row w a len zs → len ≤ cap → Calls Try.prog 17 #[.slice a len cap] w (DecAt a w (b, f, bi, fi, k, s, wd, 0, ys))) := by
  have h1 := fun a len cap w hr hc => (dec_all a len cap zs w hr hc).1
  have h2 := fun a len cap w hr hc => rdec_at a len cap zs w hr hc
  generalize decAll zs = r at *
  obtain ⟨b, f, bi, fi, k, s, wd, er, ys⟩ := r
  simp only at h
  subst h
  exact ⟨b, f, bi, fi, k, s, wd, ys, h1, h2⟩
theorem bodyZ_max {k s : Int} {wd : Bool} {zs : List Int} {b f : Int} {len : Nat} (h : rightV b f k s len = 0) (hl : zs.length = len) : (bodyZ k s wd zs).length ≤ 273 := by
  obtain ⟨-, -, -, -, h2⟩ := right_zero h
  unfold bodyZ
  split
  · split <;> simp
  · split
    · rename_i hk
      have := h2 hk
      omega
    · simp
theorem renc_str (b f : Int) (hb0 : 0 ≤ b) (hf0 : 0 ≤ f) (bi fi : Bool) (k s : Int) (hs0 : 0 ≤ s) (wd : Bool) (a : Option Addr) (len cap : Nat) (zs : List Int) (w : World) (hr : Row w a len zs) (hl : len ≤ 300) (h : rightV b f k s len = 0) :
    Calls Try.prog 18 #[.agg #[.int .u8 b, .int .u8 f, .bool bi, .bool fi, .int .u8 k, .int .u8 s, .bool wd, .slice a len cap]] w fun e w' => ∃ g c n, e = .returned (.slice (some ⟨g, 0, none⟩) n c) ∧ Below w.heap.size w w' ∧ (convert 22 9 (.slice (some ⟨g, 0, none⟩) n c)).run Try.prog w' = .ok (.string (strOfNums (encZ b f bi fi (bodyZ k s wd zs)))) w' := by
  refine (renc_is b f hb0 hf0 bi fi k s hs0 wd a len cap zs w hr hl h).mono ?_
  rintro e w' ⟨g, c, rfl, hB, -, -, hR⟩
  exact ⟨g, c, _, rfl, hB, hR.str⟩
theorem octets_long (b f : Int) (bi fi : Bool) (k s : Int) (wd : Bool) (a : Option Addr) (len cap : Nat) (zs : List Int) (h : 300 < len) (w : World) : Calls Try.prog 7 #[.agg #[.int .u8 b, .int .u8 f, .bool bi, .bool fi, .int .u8 k, .int .u8 s, .bool wd, .slice a len cap]] w fun e w' => e = .returned (.bool true) ∧ Below w.heap.size w w' := by
  have h1 : (300 : Int) < len := by omega
  have hA0 : Below w.heap.size w (w.alloc (.cells #[.int .u8 b, .int .u8 f, .bool bi, .bool fi, .int .u8 k, .int .u8 s, .bool wd, .slice a len cap] 24)) := (Below.refl _ _).alloc (Nat.le_refl _) _
  have hK0 := Blk.new w (#[.int .u8 b, .int .u8 f, .bool bi, .bool fi, .int .u8 k, .int .u8 s, .bool wd, .slice a len cap]).toList 24
  go_enter Try.func7, Try.ntmps7
  go_wp2_with fail
  refine (awake_is _).mono ?_
  rintro e w1 ⟨rfl, hb1⟩
  have hK1 := hK0.below hb1
  have c7 := hK1.cell 7 rfl
  go_wp2_with fail
  refine (awake_is _).mono ?_
  rintro e w2 ⟨rfl, hb2⟩
  go_wp2
  go_ret
  exact ⟨rfl, (hA0.trans (hb1.mono (by simp))).trans (hb2.mono ((hA0.trans (hb1.mono (by simp))).size))⟩

set_option maxHeartbeats 4000000 in
theorem octets_short (b f : Int) (bi fi : Bool) (k s : Int) (wd : Bool) (a : Option Addr) (len cap : Nat) (zs : List Int) (hb0 : 0 ≤ b) (hf0 : 0 ≤ f) (hs0 : 0 ≤ s) (h : len ≤ 300) (w : World) (hr : Row w a len zs) : Calls Try.prog 7 #[.agg #[.int .u8 b, .int .u8 f, .bool bi, .bool fi, .int .u8 k, .int .u8 s, .bool wd, .slice a len cap]] w fun e w' => e = .returned (.bool true) ∧ Below w.heap.size w w' := by
  have h1 : (len : Int) ≤ 300 := by omega
  have hA0 : Below w.heap.size w (w.alloc (.cells #[.int .u8 b, .int .u8 f, .bool bi, .bool fi, .int .u8 k, .int .u8 s, .bool wd, .slice a len cap] 24)) := (Below.refl _ _).alloc (Nat.le_refl _) _
  have hK0 := Blk.new w (#[.int .u8 b, .int .u8 f, .bool bi, .bool fi, .int .u8 k, .int .u8 s, .bool wd, .slice a len cap]).toList 24
  have HP := Lib.hid hr
  clear hr
  go_enter Try.func7, Try.ntmps7
  go_wp2_with fail
  refine (awake_is _).mono ?_
  rintro e w1 ⟨rfl, hb1⟩
  have hB1 := hA0.trans (hb1.mono (by simp))
  have hK1 := hK0.below hb1
  clear hK0 hb1 hA0
  have c0 := hK1.cell 0 rfl
  have c1 := hK1.cell 1 rfl
  have c2 := hK1.cell 2 rfl
  have c3 := hK1.cell 3 rfl
  have c4 := hK1.cell 4 rfl
  have c5 := hK1.cell 5 rfl
  have c6 := hK1.cell 6 rfl
  have c7 := hK1.cell 7 rfl
  have hn0 := nearV_nonneg (how := 255) (m := 128) hb0 (by decide)
  have hn1 := nearV_nonneg (how := 255) (m := 128) hf0 (by decide)
  have hn2 := nearV_nonneg (how := 255) (m := 8) hs0 (by decide)
  go_upto_region 4 with (first
    | (go_at_call 9; refine (near_is _ _ _ _ _ _ _ _ _ _ _ _).mono ?_; rintro e w2 ⟨rfl, hb2⟩; have hB2 := bthen hB1 hb2; have hK2 := hK1.below hb2; clear c0 c1 c2 c3 c4 c5 c6 c7 hK1)
    | (refine wpList_store_row rfl 24 (.tmp 1) (.tmp 17) rfl w.heap.size #[.int .u8 (nearV 255 128 b), .int .u8 (nearV 255 128 f), .bool bi, .bool fi, .int .u8 (nearV 255 3 k), .int .u8 (nearV 255 8 s), .bool wd, .slice a len cap] rfl rfl 24 _ hK2 (by kernel_rfl) rfl (by simp [Value.oneCell']) ?_))
  have hK3 := hK2.row (#[.int .u8 (nearV 255 128 b), .int .u8 (nearV 255 128 f), .bool bi, .bool fi, .int .u8 (nearV 255 3 k), .int .u8 (nearV 255 8 s), .bool wd, .slice a len cap]).toList
  have hB3 := below_row hB2 (Nat.le_refl _) #[.int .u8 (nearV 255 128 b), .int .u8 (nearV 255 128 f), .bool bi, .bool fi, .int .u8 (nearV 255 3 k), .int .u8 (nearV 255 8 s), .bool wd, .slice a len cap]
  replace hK3 : Blk (w2.setRow w.heap.size #[.int .u8 (nearV 255 128 b), .int .u8 (nearV 255 128 f), .bool bi, .bool fi, .int .u8 (nearV 255 3 k), .int .u8 (nearV 255 8 s), .bool wd, .slice a len cap]) w.heap.size (#[.int .u8 (nearV 255 128 b), .int .u8 (nearV 255 128 f), .bool bi, .bool fi, .int .u8 (nearV 255 3 k), .int .u8 (nearV 255 8 s), .bool wd, .slice a len cap]).toList 24 := hK3
  generalize w2.setRow w.heap.size _ = w3 at *
  clear hK2 hB2 hB1 hb2
  generalize nearV 255 128 b = b at *
  generalize nearV 255 128 f = f at *
  generalize nearV 255 3 k = k at *
  generalize nearV 255 8 s = s at *
  have c0 := hK3.cell 0 rfl
  have c1 := hK3.cell 1 rfl
  have c2 := hK3.cell 2 rfl
  have c3 := hK3.cell 3 rfl
  have c4 := hK3.cell 4 rfl
  have c5 := hK3.cell 5 rfl
  have c6 := hK3.cell 6 rfl
  have c7 := hK3.cell 7 rfl
  go_wp2_with fail
  refine (rright_any _ _ _ _ _ _ _ _ _ _ _).mono ?_
  rintro e w4 ⟨rfl, hb4⟩
  have hB4 := bthen hB3 hb4
  have hK4 := hK3.below hb4
  clear c0 c1 c2 c3 c4 c5 c6 c7 hK3 hB3 hb4
  by_cases h0 : rightV b f k s len = 0
  case neg =>
    have h2 : (rightV b f k s len == 0) = false := by simp [h0]
    have h3 : (rightV b f k s len != 0) = true := by simp [h0]
    generalize rightV b f k s len = r at *
    go_wp2
    go_ret
    exact ⟨rfl, hB4⟩
  obtain ⟨b1, f1, bi1, fi1, k1, s1, wd1, ys, hD1, hD2⟩ := dec_four (encZ b f bi fi (bodyZ k s wd zs)) (dec_enc b f bi fi _ (bodyZ_max h0 HP.out.1))
  have c0 := hK4.cell 0 rfl
  have c1 := hK4.cell 1 rfl
  have c2 := hK4.cell 2 rfl
  have c3 := hK4.cell 3 rfl
  have c4 := hK4.cell 4 rfl
  have c5 := hK4.cell 5 rfl
  have c6 := hK4.cell 6 rfl
  have c7 := hK4.cell 7 rfl
  have H0 := Lib.hid h0
  rw [h0]
  clear h0
  go_wp2_with fail
  refine (uenc_is b f hn0 hn1 bi fi k s hn2 wd a len cap zs w4 (HP.out.below hB4) h H0.out).mono ?_
  rintro e w5 ⟨g, c, n, rfl, hb5, hgc, hZ, hn⟩
  have hB5 := bthen hB4 hb5
  have hK5 := hK4.below hb5
  clear c0 c1 c2 c3 c4 c5 c6 c7 hK4 hB4 hb5
  go_wp2_with fail
  refine (hD1 _ _ _ _ hZ hgc).mono ?_
  rintro e w6 ⟨x, m, c2, rfl, hb6, hR6, hm⟩
  have hB6 := (bthen hB5 hb6).alloc (bthen hB5 hb6).size (.cells #[.int .u8 b1, .int .u8 f1, .bool bi1, .bool fi1, .int .u8 k1, .int .u8 s1, .bool wd1, .slice x m c2] 24)
  have hK6 := (hK5.below hb6).alloc (.cells #[.int .u8 b1, .int .u8 f1, .bool bi1, .bool fi1, .int .u8 k1, .int .u8 s1, .bool wd1, .slice x m c2] 24)
  have hU6 := Blk.new w6 (#[.int .u8 b1, .int .u8 f1, .bool bi1, .bool fi1, .int .u8 k1, .int .u8 s1, .bool wd1, .slice x m c2]).toList 24
  have hBel : Below w5.heap.size w5 (w6.alloc (.cells #[.int .u8 b1, .int .u8 f1, .bool bi1, .bool fi1, .int .u8 k1, .int .u8 s1, .bool wd1, .slice x m c2] 24)) := hb6.alloc hb6.size _
  have HZ := Lib.hid (hZ.below hBel)
  have HR := Lib.hid (hR6.below ((Below.refl _ _).alloc (Nat.le_refl _) (.cells #[.int .u8 b1, .int .u8 f1, .bool bi1, .bool fi1, .int .u8 k1, .int .u8 s1, .bool wd1, .slice x m c2] 24)))
  have HPW := Lib.hid (HP.out.below hB6)
  have HD2 := Lib.hid hD2
  clear hb6 hK5 hB5 hZ hR6 hBel hD1 hD2 HP
  go_upto_region 8 with fail
  replace hU6 : Blk (w6.alloc (.cells #[.int .u8 b1, .int .u8 f1, .bool bi1, .bool fi1, .int .u8 k1, .int .u8 s1, .bool wd1, .slice x m c2] 24)) w6.heap.size (#[.int .u8 b1, .int .u8 f1, .bool bi1, .bool fi1, .int .u8 k1, .int .u8 s1, .bool wd1, .slice x m c2]).toList 24 := hU6
  generalize w6.alloc (.cells #[.int .u8 b1, .int .u8 f1, .bool bi1, .bool fi1, .int .u8 k1, .int .u8 s1, .bool wd1, .slice x m c2] 24) = W at *
  generalize w6.heap.size = B at *
  have hS : ∀ w' : World, Below W.heap.size W w' → (Below W.heap.size W w' ∧ w'.cell? ⟨w.heap.size, 0, none⟩ = some (.int .u8 b) ∧ w'.cell? ⟨w.heap.size, 1, none⟩ = some (.int .u8 f) ∧ w'.cell? ⟨w.heap.size, 2, none⟩ = some (.bool bi) ∧ w'.cell? ⟨w.heap.size, 3, none⟩ = some (.bool fi) ∧ w'.cell? ⟨w.heap.size, 4, none⟩ = some (.int .u8 k) ∧ w'.cell? ⟨w.heap.size, 5, none⟩ = some (.int .u8 s) ∧ w'.cell? ⟨w.heap.size, 6, none⟩ = some (.bool wd) ∧ w'.cell? ⟨w.heap.size, 7, none⟩ = some (.slice a len cap) ∧ w'.cell? ⟨B, 0, none⟩ = some (.int .u8 b1) ∧ w'.cell? ⟨B, 1, none⟩ = some (.int .u8 f1) ∧ w'.cell? ⟨B, 2, none⟩ = some (.bool bi1) ∧ w'.cell? ⟨B, 3, none⟩ = some (.bool fi1) ∧ w'.cell? ⟨B, 4, none⟩ = some (.int .u8 k1) ∧ w'.cell? ⟨B, 5, none⟩ = some (.int .u8 s1) ∧ w'.cell? ⟨B, 6, none⟩ = some (.bool wd1) ∧ w'.cell? ⟨B, 7, none⟩ = some (.slice x m c2) ∧ (convert 22 9 (.slice (some ⟨g, 0, none⟩) n c)).run Try.prog w' = .ok (.string (strOfNums (encZ b f bi fi (bodyZ k s wd zs)))) w') := fun w' h => ⟨h, (hK6.below h).cell 0 rfl, (hK6.below h).cell 1 rfl, (hK6.below h).cell 2 rfl, (hK6.below h).cell 3 rfl, (hK6.below h).cell 4 rfl, (hK6.below h).cell 5 rfl, (hK6.below h).cell 6 rfl, (hK6.below h).cell 7 rfl, (hU6.below h).cell 0 rfl, (hU6.below h).cell 1 rfl, (hU6.below h).cell 2 rfl, (hU6.below h).cell 3 rfl, (hU6.below h).cell 4 rfl, (hU6.below h).cell 5 rfl, (hU6.below h).cell 6 rfl, (hU6.below h).cell 7 rfl, (HZ.out.below h).str⟩
  have HB := Lib.hid hB6
  clear hK6 hU6 hB6
  go_region_held (fun w' => Below W.heap.size W w' ∧ w'.cell? ⟨w.heap.size, 0, none⟩ = some (.int .u8 b) ∧ w'.cell? ⟨w.heap.size, 1, none⟩ = some (.int .u8 f) ∧ w'.cell? ⟨w.heap.size, 2, none⟩ = some (.bool bi) ∧ w'.cell? ⟨w.heap.size, 3, none⟩ = some (.bool fi) ∧ w'.cell? ⟨w.heap.size, 4, none⟩ = some (.int .u8 k) ∧ w'.cell? ⟨w.heap.size, 5, none⟩ = some (.int .u8 s) ∧ w'.cell? ⟨w.heap.size, 6, none⟩ = some (.bool wd) ∧ w'.cell? ⟨w.heap.size, 7, none⟩ = some (.slice a len cap) ∧ w'.cell? ⟨B, 0, none⟩ = some (.int .u8 b1) ∧ w'.cell? ⟨B, 1, none⟩ = some (.int .u8 f1) ∧ w'.cell? ⟨B, 2, none⟩ = some (.bool bi1) ∧ w'.cell? ⟨B, 3, none⟩ = some (.bool fi1) ∧ w'.cell? ⟨B, 4, none⟩ = some (.int .u8 k1) ∧ w'.cell? ⟨B, 5, none⟩ = some (.int .u8 s1) ∧ w'.cell? ⟨B, 6, none⟩ = some (.bool wd1) ∧ w'.cell? ⟨B, 7, none⟩ = some (.slice x m c2) ∧ (convert 22 9 (.slice (some ⟨g, 0, none⟩) n c)).run Try.prog w' = .ok (.string (strOfNums (encZ b f bi fi (bodyZ k s wd zs)))) w') (first | exact hS _ (below_drewN (Below.refl _ _) 1) | exact hS _ (bthen (And.left (by assumption)) hbq) | go_keep)
    (first | (go_at_call 18; refine (renc_str b f hn0 hn1 bi fi k s hn2 wd a len cap zs _ (HPW.out.below (And.left (by assumption))) h H0.out).mono ?_; rintro e w' ⟨g', c', n', rfl, hbq, hstr⟩) | (go_at_call 19; refine (plain_is b f hn0 hn1 bi fi k s hn2 wd a len cap zs _ (HPW.out.below (And.left (by assumption))) h H0.out _ HD2.out).mono ?_; rintro e w' ⟨x', m', c', rfl, hbq, hR', hm'⟩) | (go_at_call 14; refine (rsame_is _ _ _ _ _ _ _ _ _ _ _ _ _ _ _ _ _ _ _ _ _ _ _ (HR.out.below (And.left (by assumption))) (by assumption) (by omega)).mono ?_; rintro e w' ⟨rfl, hbq⟩; rw [sameV_self]) | (go_at_call 13; refine (usame_is _ _ _ _ _ _ _ _ _ _ _ _ _ _ _ _ _ _ _ _ _ _ _ (HR.out.below (And.left (by assumption))) (by assumption) (by omega)).mono ?_; rintro e w' ⟨rfl, hbq⟩; rw [sameV_self]))
  all_goals go_wp2
  all_goals go_ret
  all_goals exact ⟨rfl, bthen HB.out (And.left (by assumption))⟩
theorem octets_row (b f : Int) (bi fi : Bool) (k s : Int) (wd : Bool) (a : Option Addr) (len cap : Nat) (zs : List Int) (W : World) (hb0 : 0 ≤ b ∧ b ≤ 255) (hf0 : 0 ≤ f ∧ f ≤ 255) (hs0 : 0 ≤ s ∧ s ≤ 255) (hr : Row W a len zs) : Calls Try.prog 7 #[.agg #[.int .u8 b, .int .u8 f, .bool bi, .bool fi, .int .u8 k, .int .u8 s, .bool wd, .slice a len cap]] W fun e w' => e = .returned (.bool true) ∧ Below W.heap.size W w' := by
  by_cases h : len ≤ 300
  · exact octets_short b f bi fi k s wd a len cap zs hb0.1 hf0.1 hs0.1 h W hr
  · exact octets_long b f bi fi k s wd a len cap zs (by omega) W
end Go.Proofs.Ytpgalefpccgpfaa
