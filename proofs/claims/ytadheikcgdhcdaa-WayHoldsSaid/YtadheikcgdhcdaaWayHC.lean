/-
  Whatever is put, sent and answered, no more waits than may: the walk.
-/
import Derived.Test.YtadheikcgdhcdaaWAny
namespace Go.Proofs.Ytadheikcgdhcdaa
open Go.RowKit
set_option linter.unusedVariables false
set_option linter.unusedSimpArgs false

set_option maxRecDepth 100000 in
set_option maxHeartbeats 16000000 in
theorem wayholds_c (a : Option Addr) (len cap : Nat) (zs : List Int) (w : World) (hz : Came w .u8 a len zs) (hm : len ≤ 200) :
    Calls Try.prog 15 #[.bool true, .slice a len cap] w fun e w' => e = .returned (.bool true) ∧ Below w.heap.size w w' := by
  have HZ := Lib.hid hz
  have hd : ¬ ((200 : Int) < (len : Int)) := by omega
  clear hz
  go_enter Try.func15, Try.ntmps15
  go_wp2_with fail
  refine (awake13_any _).mono ?_
  rintro e w0 ⟨rfl, hB0⟩
  go_wp2_with fail
  refine (usual_any _ _).mono ?_
  rintro e w1 ⟨rfl, hB1⟩
  have hB2 : Below w.heap.size w (w1.alloc (.cells #[.bool true, .int .i64 3, .int .i64 40, .int .i64 16, .int .i64 600, .int .i64 600, .int .i64 12000, .int .i64 8000, .int .i64 4000, .int .i64 1200, .int .i64 100, .int .i64 4000, .int .i64 6000] 24)) := (hB0.trans (hB1.mono hB0.size)).alloc (Nat.le_trans hB0.size hB1.size) _
  have hS := Blk.new w1 [.bool true, .int .i64 3, .int .i64 40, .int .i64 16, .int .i64 600, .int .i64 600, .int .i64 12000, .int .i64 8000, .int .i64 4000, .int .i64 1200, .int .i64 100, .int .i64 4000, .int .i64 6000] 24
  have hSb : w.heap.size ≤ w1.heap.size := Nat.le_trans hB0.size hB1.size
  generalize hSZ : w1.heap.size = SZ at hS hSb
  clear hB0 hB1
  go_wp2_with fail
  refine (wnew_c w _ hB2 _ _ _ _ _ _ _ _ _ _ _ _ (by decide) (by decide)).mono ?_
  rintro e w2 ⟨b, h, rfl, hA, hK2⟩
  have hS2 := hK2.2 _ _ 24 (by decide) (by decide) (by decide) hS
  have c0 := hS2.cell 0 rfl
  have c1 := hS2.cell 1 rfl
  have c2 := hS2.cell 2 rfl
  have c3 := hS2.cell 3 rfl
  have c4 := hS2.cell 4 rfl
  have c5 := hS2.cell 5 rfl
  have c6 := hS2.cell 6 rfl
  have c7 := hS2.cell 7 rfl
  have c8 := hS2.cell 8 rfl
  have c9 := hS2.cell 9 rfl
  have c10 := hS2.cell 10 rfl
  have c11 := hS2.cell 11 rfl
  have c12 := hS2.cell 12 rfl
  clear hS hK2 hB2
  simp only [hSZ]
  go_wp2_with fail
  refine (most_any _ _ _ _ _ _ _ _ _ _ _ _ _ _).mono ?_
  rw [show mostA true 3 16 = 3 from by decide, show mostB true 40 600 = 40 from by decide]
  rintro e w3 ⟨rfl, hB3⟩
  have hA3 := hA.below hB3
  have hS3 := hS2.below hB3
  have hH : HC2 0 w w3 b h := ⟨_, hA3, ⟨by decide, by decide⟩, rfl, rfl, rfl, by decide, .inl (by decide)⟩
  clear c0 c1 c2 c3 c4 c5 c6 c7 c8 c9 c10 c11 c12 hA hS2 hB3 hA3
  have i1 := inv_hold_c ⟨b, 0, none⟩
  have i2 := inv_next_c ⟨b, 0, none⟩
  have i4 := inv_answer_c ⟨b, 0, none⟩
  have i5 := ahead_answer_c ⟨b, 0, none⟩
  go_wp2_with fail
  go_loopw [9] (fun i wr => ∃ (q : Nat) (f : Int), q ≤ len ∧ i = .int .i64 q ∧ HC2 f w wr b h ∧ Blk wr SZ [.bool true, .int .i64 3, .int .i64 40, .int .i64 16, .int .i64 600, .int .i64 600, .int .i64 12000, .int .i64 8000, .int .i64 4000, .int .i64 1200, .int .i64 100, .int .i64 4000, .int .i64 6000] 24) (fun i _ => 700 - (intOf i).toNat)
  case atStart => exact ⟨0, 0, by omega, rfl, hH, hS3⟩
  case round =>
    clear hH hS3
    obtain ⟨q, f, hq, rfl, hH, hS⟩ := hrel
    by_cases hlt : q < len
    · have hlt2 : (q : Int) < (len : Int) := by omega
      obtain ⟨x, rfl, hxb, hxc⟩ := HZ.out.2.2 q hlt
      have hbelow : Below w.heap.size w wr := by obtain ⟨s, h1, _⟩ := hH; exact h1.bel
      have hxc2 : wr.cell? (x.add q) = some (.int .u8 (zs.getD q 0)) := by rw [← hxc]; exact hbelow.cell (by unfold Addr.add; split <;> exact hxb)
      have hzb := bounds_u8 (HZ.out.wf q hlt)
      generalize zs.getD q 0 = z at hxc2 hzb
      have hq1 : z.tmod 4 = z % 4 := Int.tmod_eq_emod_of_nonneg (by omega)
      have hq2 : z.tdiv 4 = z / 4 := Int.tdiv_eq_ediv_of_nonneg (by omega)
      have hq3 : IntKind.u8.wrap (z % 4) = z % 4 := by rw [wrap8m]; omega
      have hq4 : IntKind.u8.wrap (z / 4) = z / 4 := by rw [wrap8m]; omega
      obtain ⟨n, hn⟩ : ∃ n : Nat, 3 + z / 4 = n := ⟨(3 + z / 4).toNat, by omega⟩
      have hq5 : IntKind.i64.wrap (z / 4) = z / 4 := wrapH _ (by omega)
      have hq6 : IntKind.i64.wrap (3 + z / 4) = (n : Int) := by rw [hn]; exact wrapH _ (by omega)
      have hnb : n ≤ 1000 := by omega
      have hq7 : IntKind.i64.wrap (n : Int) = (n : Int) := wrapH _ (by omega)
      go_upto_block 2 with fail
      go_cut [39] (fun _ wx => ∃ f', HC2 f' w wx b h ∧ Blk wx SZ [.bool true, .int .i64 3, .int .i64 40, .int .i64 16, .int .i64 600, .int .i64 600, .int .i64 12000, .int .i64 8000, .int .i64 4000, .int .i64 1200, .int .i64 100, .int .i64 4000, .int .i64 6000] 24)
      case first =>
        have hho : ∀ W', Below wr.heap.size wr W' → Calls Try.prog 47 #[.pointer (some ⟨b, 0, none⟩)] W' fun e w' => e = .returned (.pointer (some ⟨h, 0, none⟩)) ∧ w' = W' := fun W' hb => by
          obtain ⟨s, h1, _⟩ := hH
          exact (h1.below hb).hold
        rcases (by omega : z % 4 = 0 ∨ z % 4 = 1 ∨ z % 4 = 2 ∨ z % 4 = 3) with hr | hr | hr | hr
        · 
          rw [hr] at hq1 hq3 ⊢
          clear hr
          have hmk := make_octs n hnb
          go_upto_region 15 with fail
          have hput := (hH.below (below_drewN ((Below.refl _ wr).alloc (Nat.le_refl _) (.cells (madeCells #[Value.int .u8 0] n) 5)) 1)).put _ _ ((Oct.made wr n).drewN 1)
          have hSd := (hS.alloc (.cells (madeCells #[Value.int .u8 0] n) 5)).drewN 1
          have HH := Lib.hid hH
          have HS := Lib.hid hSd
          clear hH hS hSd
          go_region_with (first | (go_at_call 47; refine (hho _ (by first | exact below_drewN (Below.refl _ _) 1 | exact below_drewN ((Below.refl _ _).alloc (Nat.le_refl _) _) 1)).mono ?_; rintro e w9 ⟨rfl, rfl⟩) | (go_at_call 21; refine hput.mono ?_; rintro e w5 ⟨cc, rfl, k5, hK5⟩))
          all_goals go_wp2
          all_goals go_meet
          all_goals exact ⟨f, k5, hK5.2 _ _ 24 (by decide) (by decide) (by decide) HS.out⟩
        · 
          rw [hr] at hq1 hq3 ⊢
          clear hr
          have hmk := make_octs n hnb
          go_upto_region 15 with fail
          have hput := (hH.below (below_drewN ((Below.refl _ wr).alloc (Nat.le_refl _) (.cells (madeCells #[Value.int .u8 0] n) 5)) 1)).put _ _ ((Oct.made wr n).drewN 1)
          have hSd := (hS.alloc (.cells (madeCells #[Value.int .u8 0] n) 5)).drewN 1
          have HH := Lib.hid hH
          have HS := Lib.hid hSd
          clear hH hS hSd
          go_region_with (first | (go_at_call 47; refine (hho _ (by first | exact below_drewN (Below.refl _ _) 1 | exact below_drewN ((Below.refl _ _).alloc (Nat.le_refl _) _) 1)).mono ?_; rintro e w9 ⟨rfl, rfl⟩) | (go_at_call 21; refine hput.mono ?_; rintro e w5 ⟨cc, rfl, k5, hK5⟩))
          all_goals go_wp2
          all_goals go_meet
          all_goals exact ⟨f, k5, hK5.2 _ _ 24 (by decide) (by decide) (by decide) HS.out⟩
        · rw [hr] at hq1 hq3 ⊢
          have hnx := hH.next
          have HS := Lib.hid hS
          clear hr hH hS hho
          go_wp2_with fail
          refine hnx.mono ?_
          rintro e w5 ⟨vv, rfl, k5, hK5⟩
          go_wp2
          go_meet
          exact ⟨f, k5, hK5.2 _ _ 24 (by decide) (by decide) (by decide) HS.out⟩
        · rw [hr] at hq1 hq3 ⊢
          have hfi : ∀ W', Below wr.heap.size wr W' → Calls Try.prog 68 #[.pointer (some ⟨h, 0, none⟩)] W' fun e w' => e = .returned (.int .u8 f) ∧ w' = W' := fun W' hb => by
            obtain ⟨s, h1, _, rfl, _⟩ := hH
            obtain ⟨sv, nv, hx, _⟩ := (h1.below hb).ex
            exact hx.hx.first
          have han := (hH.below (below_drewN (Below.refl _ wr) 1)).answer
          have HS := Lib.hid (hS.drewN 1)
          clear hr hH hS
          go_upto_region 12 with fail
          go_region_with (first | (go_at_call 47; refine (hho _ (below_drewN (Below.refl _ _) 1)).mono ?_; rintro e w9 ⟨rfl, rfl⟩) | (go_at_call 68; refine (hfi _ (below_drewN (Below.refl _ _) 1)).mono ?_; rintro e w9 ⟨rfl, rfl⟩) | (go_at_call 50; refine han.mono ?_; rintro e w5 ⟨vv, rfl, ⟨f', k5⟩, hK5⟩))
          all_goals go_wp2
          all_goals go_meet
          all_goals exact ⟨f', k5, hK5.2 _ _ 24 (by decide) (by decide) (by decide) HS.out⟩
      case rest =>
        obtain ⟨f', hH', hS'⟩ := hcut
        clear hH hS hxc2 hxc hxb i4 i2 i5
        have ht3 := hS'.cell 3 rfl
        have ht4 := hS'.cell 4 rfl
        have HH := Lib.hid hH'
        have HS := Lib.hid hS'
        obtain ⟨s, h1, h2, h3, e1, e2, e3, e4⟩ := hH'
        have hbel := h1.bel
        obtain ⟨sv, nv, hx, hR⟩ := h1.ex
        have hho := fun n => (hx.drewN n).hold
        have hse := fun n => (hx.drewN n).hx.sent
        have hnx := fun n => (hx.drewN n).hx.nexts
        have hwa := fun n => (hx.drewN n).hx.waiting
        have hoc := fun n => (hx.drewN n).hx.octets
        have b1 := octs_drop s.ss 0
        have b2 := octs_drop s.ns 0
        have b3 := h2.1
        have b4 := h2.2
        generalize s.ss.length = L at *
        generalize s.ns.length = M at *
        rw [List.drop_zero] at b1 b2
        generalize octs s.ss = A at *
        generalize octs s.ns = B at *
        have g1 : ¬ ((3 : Int) < (L : Int)) := by omega
        have g3 : ¬ ((40 : Int) < A) ∨ ¬ ((1 : Int) < (L : Int)) := by omega
        have g4 : ¬ ((600 : Int) < A + B) := by omega
        have g5 : ¬ ((16 : Int) < (L : Int) + M) := by omega
        have hwL : IntKind.i64.wrap ((L : Int) + M) = (L : Int) + M := wrapH _ (by omega)
        clear h1 h2 h3 hx hR hS' b1 b2 b3 b4 e1 e2 e3 e4
        by_cases hL1 : (1 : Int) < (L : Int)
        all_goals
          first | have g6 : ¬ ((40 : Int) < A) := by omega | skip
          clear g3
          go_upto_region 18 with fail
          go_quiet (first | (go_at_call 47; exact Calls.quiet_of_same (hho _)) | (go_at_call 24; exact Calls.quiet_of_same (hse _)) | (go_at_call 51; exact Calls.quiet_of_same (hwa _)) | (go_at_call 69; exact Calls.quiet_of (hoc _)) | (go_at_call 53; exact Calls.quiet_of_same (hnx _)))
          go_wp2
          exact ⟨⟨q + 1, f', by omega, by go_num, HH.out.below (below_drewN (Below.refl _ _) _), HS.out.drewN _⟩, by simp [intOf]; omega⟩
    · have hqL : q = len := by omega
      subst hqL
      have hge : ¬ ((q : Int) < (q : Int)) := by omega
      have hbelow : Below w.heap.size w wr := by obtain ⟨s, h1, _⟩ := hH; exact h1.bel
      clear hlt hq hH hS
      go_wp2
      go_ret
      exact ⟨rfl, hbelow⟩
end Go.Proofs.Ytadheikcgdhcdaa
