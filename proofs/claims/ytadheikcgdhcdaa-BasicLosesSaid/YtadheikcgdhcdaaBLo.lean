/-
  Each once, in order, by the basic method, over lines that lose and that hold units for a while: the walk.
-/
import Derived.Test.YtadheikcgdhcdaaLosQ
import Derived.Test.YtadheikcgdhcdaaWAny
namespace Go.Proofs.Ytadheikcgdhcdaa
open Go.RowKit
set_option linter.unusedVariables false
set_option linter.unusedSimpArgs false

theorem qtake_same (du : Bool) (u : Bool × Nat) (z : LSt) : (qtake du u z).p = z.p ∧ (qtake du u z).q = z.q ∧ (qtake du u z).g = z.g := by
  unfold qtake ltake
  split
  · split
    · split
      · split <;> exact ⟨rfl, rfl, rfl⟩
      · exact ⟨rfl, rfl, rfl⟩
    · exact ⟨rfl, rfl, rfl⟩
  · exact ⟨rfl, rfl, rfl⟩
set_option maxRecDepth 100000 in
set_option maxHeartbeats 16000000 in
theorem bloses_b (n0 : Int) (a : Option Addr) (len cap : Nat) (d0 : Int) (zs : List Int) (w : World) (hz : Came w .u8 a len zs) (hm : len ≤ 60) (hn : 0 ≤ n0 ∧ n0 ≤ 255) (hd0 : 0 ≤ d0 ∧ d0 ≤ 255) :
    Calls Try.prog 12 #[.int .u8 n0, .slice a len cap, .int .u8 d0] w fun e w' => e = .returned (.bool true) ∧ Below w.heap.size w w' := by
  have HZ := Lib.hid hz
  have hd : ¬ ((60 : Int) < (len : Int)) := by omega
  have hw1 : IntKind.i64.wrap n0 = n0 := wrapH _ (by omega)
  obtain ⟨K, hK⟩ : ∃ K : Nat, n0 % 40 = K := ⟨(n0 % 40).toNat, by omega⟩
  have hKt : n0.tmod 40 = (K : Int) := by rw [Int.tmod_eq_emod_of_nonneg (by omega)]; exact hK
  have hK39 : K ≤ 39 := by omega
  have hw2 : IntKind.i64.wrap d0 = d0 := wrapH _ (by omega)
  obtain ⟨D, hD⟩ : ∃ D : Nat, d0 % 6 = D := ⟨(d0 % 6).toNat, by omega⟩
  have hDt : d0.tmod 6 = (D : Int) := by rw [Int.tmod_eq_emod_of_nonneg (by omega)]; exact hD
  have hD5 : D ≤ 5 := by omega
  have hw3 : IntKind.i64.wrap (1 + (D : Int)) = ((D + 1 : Nat) : Int) := by rw [wrapH _ (by omega)]; omega
  clear hz hK hn hD hd0
  go_enter Try.func12, Try.ntmps12
  go_wp2_with fail
  refine (awake11_any _).mono ?_
  rintro e w0 ⟨rfl, hB0⟩
  go_wp2_with fail
  refine (BOf.new w w0 hB0 200 100000).mono ?_
  rintro e w2 ⟨ba, ha, rfl, hA, -⟩
  go_wp2_with fail
  refine (BOf.new w2 w2 (Below.refl _ _) 200 100000).mono ?_
  rintro e w4 ⟨bb, hb, rfl, hA2, -⟩
  have hT : LD w w4 ba ha bb hb ⟨true, true, false, 0, 0, 0, 0, 0⟩ := TB.to (TB.two hA hA2) rfl rfl
  clear hB0 hA hA2
  go_wp2_with fail
  go_loopw [10] (fun i wr => ∃ q : Nat, q ≤ K ∧ i = .int .i64 q ∧ LD w wr ba ha bb hb ⟨true, true, false, 0, 0, q, 0, 0⟩) (fun i _ => 50 - (intOf i).toNat)
  case atStart => exact ⟨0, Nat.zero_le _, rfl, hT⟩
  case round =>
    clear hT
    obtain ⟨q, hq, rfl, hL⟩ := hrel
    by_cases hlt : q < K
    · have hlt2 : (q : Int) < (K : Int) := by omega
      have hu : IntKind.u8.wrap (q : Int) = q := by rw [wrap8m]; omega
      have hw4 : IntKind.i64.wrap ((q : Int) + 1) = ((q + 1 : Nat) : Int) := by rw [wrapH _ (by omega)]; omega
      go_wp2_with fail
      refine hL.hold.mono ?_
      rintro e w5 ⟨rfl, rfl⟩
      go_wp2_with fail
      have hL2 := hL.below ((Below.refl _ _).alloc (Nat.le_refl _) (.cells #[.int .u8 (q : Int), .int .u8 1, .int .u8 2] 5 (0, 0)))
      have hpt := hL2.put (Nat.le_refl _) (Nat.zero_le _) (by show q ≤ 39; omega) _ (Oct.new w5 (msg3 q) 5 (0, 0) 3)
      refine hpt.mono ?_
      rintro e w6 ⟨rfl, k6, -⟩
      clear hpt hL hL2
      go_wp2
      exact ⟨⟨q + 1, by omega, rfl, k6⟩, by simp [intOf]; omega⟩
    · have hlt2 : ¬ (q : Int) < (K : Int) := by omega
      have hqK : q = K := by omega
      subst hqK
      clear hlt hq
      have hQ0 := QW.new (K := q) hL
      have hI0 : QI q 0 100 ⟨⟨true, true, false, 0, 0, q, 0, 0⟩, [], []⟩ := ⟨⟨rfl, hK39, Nat.le_refl _, Nat.le_refl _, Nat.le_refl _, Nat.zero_le _, by simp, by simp, by simp⟩, .inl ⟨[], [], 0, rfl, ⟨rfl, by simp, by simp, by simp, Nat.le_refl _, Nat.zero_le _, rfl, by simp, by simp [vcnt]; split <;> omega⟩⟩⟩
      clear hL
      generalize q = K at *
      go_wp2_with fail
      go_loopw [12, 13, 14, 15] (fun vu vv g i wr => ∃ (z : LSt) (U : List (Bool × Nat)) (V : List (Nat × Bool)) (q : Nat), q ≤ 400 ∧ g = .int .i64 z.r ∧ i = .int .i64 q ∧ QW w wr ba ha bb hb K vu vv z U V ∧ QI K 0 (if q < 60 then 100 else 160 - q) ⟨z, U, V⟩ ∧ U.length = V.length ∧ U.length ≤ D ∧ (U.length = D ∨ U.length = q)) (fun _ _ _ i _ => 700 - (intOf i).toNat)
      case atStart => exact ⟨_, [], [], 0, by omega, rfl, rfl, hQ0, hI0, rfl, Nat.zero_le _, .inr rfl⟩
      case round =>
        clear hQ0 hI0
        obtain ⟨z, U, V, q, hq, rfl, rfl, hQ, hI, hl1, hl2, hl3⟩ := hrel
        by_cases hlt : q < 400
        · have hlt2 : (q : Int) < 400 := by omega
          have hB := hI.1
          have hI1 : QI K 1 (if q < 60 then 100 else 160 - q) ⟨lnext z, U ++ [(z.fib, z.g)], V ++ [(z.r, z.bib)]⟩ := hI.push
          have hna := hQ.nextA hB
          have n1 : (lnext z).r = z.r := by unfold lnext; split <;> rfl
          have n2 : (lnext z).bib = z.bib := by unfold lnext; split <;> rfl
          have hUl : U.length ≤ 1000 := by omega
          have hVl : V.length ≤ 1000 := by omega
          have HI := Lib.hid hI1
          have HL := Lib.hid (And.intro hl1 (And.intro hl2 hl3))
          clear hI hI1 hl1 hl2 hl3 hB
          go_wp2_with fail
          refine hna.mono ?_
          rintro e w5 ⟨iv, rfl, hiv, hQ1⟩
          clear hna hQ
          have hbA : Below w5.heap.size w5 (w5.alloc (.cells #[.int .u8 127, .int .u8 (unum K z.g), .bool true, .bool z.fib, .int .u8 (ukind K z.g), .int .u8 0, .bool false, iv] 69)) := (Below.refl _ _).alloc (Nat.le_refl _) _
          have hU := Blk.new w5 (ucell K (z.fib, z.g) iv) 69
          have hne : u12.ownBlock ≠ some w5.heap.size := fun e => by
            obtain ⟨xs, h1, h2⟩ := hQ1.us
            have := (h1.own e).2.1
            omega
          have hQ2 := hQ1.below hbA
          have hiv2 := hiv.kp (KpB.below hbA)
          clear hQ1 hiv hbA
          go_wp2_with (first | (at_builtin; refine wpList_pushU hQ2 (by rfl) (.tmp 61) (.tmp 64) (by rfl) (by rfl) w5.heap.size 1 (by rfl) (z.fib, z.g) iv hiv2 hU hne hUl ?_; intro v1 w6 hQ3; clear hQ2 hiv2 hU hne) | fail)
          have hnb := hQ3.nextB
          rw [n1, n2] at hnb
          refine hnb.mono ?_
          rintro e w7 ⟨rfl, hQ4⟩
          clear hnb hQ3
          have hbA : Below w7.heap.size w7 (w7.alloc (.cells #[.int .u8 ((127 + (z.r : Int)) % 128), .int .u8 127, .bool z.bib, .bool true, .int .u8 0, .int .u8 0, .bool false, .slice none 0 0] 69)) := (Below.refl _ _).alloc (Nat.le_refl _) _
          have hV := Blk.new w7 (vcell (z.r, z.bib)) 69
          have hQ5 := hQ4.below hbA
          clear hQ4 hbA
          go_upto_region 18 with (first | (at_builtin; refine wpList_pushV hQ5 (by rfl) (.tmp 66) (.tmp 69) (by rfl) (by rfl) w7.heap.size 1 (by rfl) (z.r, z.bib) hV hVl ?_; intro v2 w8 hQ6; obtain ⟨a1, c1, rfl⟩ := hQ6.shape; clear hQ5 hV) | fail)
          have eU : (U ++ [(z.fib, z.g)]).length = U.length + 1 := by simp
          have eV : (V ++ [(z.r, z.bib)]).length = V.length + 1 := by simp
          rw [eU] at hQ6
          have hw5 : IntKind.i64.wrap ((q : Int) + 1) = ((q + 1 : Nat) : Int) := by rw [wrapH _ (by omega)]; omega
          by_cases hcc : U.length < D
          · have hcc2 : ((U.length + 1 : Nat) : Int) < ((D + 1 : Nat) : Int) := by omega
            obtain ⟨l1, l2, l3⟩ := HL.out
            have hq6 : q + 1 < 60 := by omega
            have hI2 := HI.out.bd (by show (U ++ [(z.fib, z.g)]).length ≤ 6; omega) (by show (V ++ [(z.r, z.bib)]).length ≤ 6; omega)
            clear HI HL
            rw [← n1]
            go_wp2
            exact ⟨⟨lnext z, _, _, q + 1, by omega, rfl, rfl, hQ6, by rw [if_pos hq6]; exact hI2, by rw [eU, eV]; omega, by rw [eU]; omega, .inr (by rw [eU]; omega)⟩, by simp [intOf]; omega⟩
          · have hcc2 : ¬ ((U.length + 1 : Nat) : Int) < ((D + 1 : Nat) : Int) := by omega
            obtain ⟨l1, l2, l3⟩ := HL.out
            have hI2 := HI.out
            clear HI HL
            have hUD : U.length = D := by omega
            have hVD : V.length = D := by omega
            obtain ⟨u, U', hUU, hUl'⟩ : ∃ u U', U ++ [(z.fib, z.g)] = u :: U' ∧ U'.length = D := by
              cases hh : U ++ [(z.fib, z.g)] with
              | nil => simp at hh
              | cons u U' => exact ⟨u, U', rfl, by rw [hh] at eU; simp at eU; omega⟩
            obtain ⟨v, V', hVV, hVl'⟩ : ∃ v V', V ++ [(z.r, z.bib)] = v :: V' ∧ V'.length = D := by
              cases hh : V ++ [(z.r, z.bib)] with
              | nil => simp at hh
              | cons v V' => exact ⟨v, V', rfl, by rw [hh] at eV; simp at eV; omega⟩
            rw [hUU, hVV] at hQ6 hI2
            have hq60 : q < 60 ∨ 60 ≤ q := by omega
            rw [hUD] at hQ6 hcc hcc2 ⊢
            clear hUU hVV eU eV l1 l2 l3 hUD hVD hUl hVl
            generalize lnext z = z1 at *
            rw [← n1]
            clear n1 n2
            obtain ⟨g1, o1, k1, iv1, e1, hk1, hm1, hiv1, hcu, hQ7⟩ := hQ6.popU
            simp only [Value.slice.injEq] at e1
            obtain ⟨rfl, -, rfl⟩ := e1
            obtain ⟨g2, o2, k2, rfl, hk2, hm2, hcv, hQ8⟩ := hQ7.popV
            rw [hUl'] at hk1 hQ8
            rw [hVl'] at hk2 hQ8 ⊢
            have hone := hiv1.1
            have hg2 : g2 < w8.heap.size := World.block_lt_of_cell? w8 ⟨g2, o2 + 0, none⟩ (hcv 0 _ rfl)
            have c0 : w8.cell? ⟨g1, o1, none⟩ = _ := hcu 0 _ rfl
            have c1 := hcu 1 _ rfl
            have c2 := hcu 2 _ rfl
            have c3 := hcu 3 _ rfl
            have c4 := hcu 4 _ rfl
            have c5 := hcu 5 _ rfl
            have c6 := hcu 6 _ rfl
            have c7 := hcu 7 _ rfl
            have hR0 := Blk.new w8 unit0 69
            have hb9 : Below w8.heap.size w8 ((w8.alloc (.cells unit0.toArray 69)).setRow w8.heap.size #[.int .u8 127, .int .u8 (unum K u.2), .bool true, .bool u.1, .int .u8 (ukind K u.2), .int .u8 0, .bool false, iv1]) := below_row ((Below.refl _ _).alloc (Nat.le_refl _) _) (Nat.le_refl _) _
            have hU := Blk.row hR0 (ucell K u iv1)
            have hK := hR0
            unfold Blk at hK
            have e0 : ((w8.alloc (.cells unit0.toArray 69)).setRow w8.heap.size #[.int .u8 127, .int .u8 (unum K u.2), .bool true, .bool u.1, .int .u8 (ukind K u.2), .int .u8 0, .bool false, iv1]).cell? ⟨g2, o2, none⟩ = _ := (hb9.cell (p := ⟨g2, o2 + 0, none⟩) hg2).trans (hcv 0 _ rfl)
            have e1 := (hb9.cell (p := ⟨g2, o2 + 1, none⟩) hg2).trans (hcv 1 _ rfl)
            have e2 := (hb9.cell (p := ⟨g2, o2 + 2, none⟩) hg2).trans (hcv 2 _ rfl)
            have e3 := (hb9.cell (p := ⟨g2, o2 + 3, none⟩) hg2).trans (hcv 3 _ rfl)
            have e4 := (hb9.cell (p := ⟨g2, o2 + 4, none⟩) hg2).trans (hcv 4 _ rfl)
            have e5 := (hb9.cell (p := ⟨g2, o2 + 5, none⟩) hg2).trans (hcv 5 _ rfl)
            have e6 := (hb9.cell (p := ⟨g2, o2 + 6, none⟩) hg2).trans (hcv 6 _ rfl)
            have e7 := (hb9.cell (p := ⟨g2, o2 + 7, none⟩) hg2).trans (hcv 7 _ rfl)
            have hQ9 := hQ8.below hb9
            have hiv9 := hiv1.kp (KpB.below hb9)
            obtain ⟨X, hX⟩ : ∃ X, X = (w8.alloc (.cells #[.int .u8 0, .int .u8 0, .bool false, .bool false, .int .u8 0, .int .u8 0, .bool false, .slice none 0 0] 69)).setRow w8.heap.size #[.int .u8 127, .int .u8 (unum K u.2), .bool true, .bool u.1, .int .u8 (ukind K u.2), .int .u8 0, .bool false, iv1] := ⟨_, rfl⟩
            have hsz : w8.heap.size + 1 = X.heap.size := by rw [hX]; simp [World.setRow]
            have hU9 : Blk X w8.heap.size (ucell K u iv1) 69 := by rw [hX]; exact hU
            have hQ9' : QW w X ba ha bb hb K _ _ z1 U' V' := hX ▸ hQ9
            have hiv9' : Iv X (decide (u.2 < K)) u.2 iv1 := hX ▸ hiv9
            have hbX : Below X.heap.size X (X.alloc (.cells #[.int .u8 ((127 + (v.1 : Int)) % 128), .int .u8 127, .bool v.2, .bool true, .int .u8 0, .int .u8 0, .bool false, .slice none 0 0] 69)) := (Below.refl _ _).alloc (Nat.le_refl _) _
            have hV : Blk (X.alloc (.cells #[.int .u8 ((127 + (v.1 : Int)) % 128), .int .u8 127, .bool v.2, .bool true, .int .u8 0, .int .u8 0, .bool false, .slice none 0 0] 69)) X.heap.size (vcell v) 69 := Blk.new X (vcell v) 69
            have hQ := hQ9'.below hbX
            have hiv := hiv9'.kp (KpB.below hbX)
            have hU := hU9.below hbX
            have HX := Lib.hid hX
            clear hQ6 hQ7 hQ8 hiv1 hcu hcv hX hQ9 hQ9' hiv9 hiv9' hb9 hbX hU9
            go_upto_region 21 with (refine wpList_store_row rfl 69 (.tmp 16) (.tmp 77) rfl w8.heap.size #[.int .u8 127, .int .u8 (unum K u.2), .bool true, .bool u.1, .int .u8 (ukind K u.2), .int .u8 0, .bool false, iv1] rfl rfl 69 _ hK (by kernel_rfl) rfl (by simp [Value.oneCell']; exact hone) ?_)
            clear c0 c1 c2 c3 c4 c5 c6 c7 e0 e1 e2 e3 e4 e5 e6 e7 hK hR0
            rw [← HX.out]
            clear HX hsz
            generalize X.heap.size = bv at *
            generalize w8.heap.size = bu at *
            generalize X.alloc (.cells #[.int .u8 ((127 + (v.1 : Int)) % 128), .int .u8 127, .bool v.2, .bool true, .int .u8 0, .int .u8 0, .bool false, .slice none 0 0] 69) = Y at *
            go_upto_region 23 with fail
            have eS1 : (if c1 = 1 then some (⟨g1, o1, none⟩ : Addr) else some ⟨g1, o1 + 8, none⟩) = some ⟨g1, if 1 = c1 then o1 else o1 + 8, none⟩ := by
              by_cases h : c1 = 1
              · rw [if_pos h, if_pos h.symm]
              · rw [if_neg h, if_neg (fun e => h e.symm)]
            have eS2 : (if k2 = 1 then some (⟨g2, o2, none⟩ : Addr) else some ⟨g2, o2 + 8, none⟩) = some ⟨g2, if 1 = k2 then o2 else o2 + 8, none⟩ := by
              by_cases h : k2 = 1
              · rw [if_pos h, if_pos h.symm]
              · rw [if_neg h, if_neg (fun e => h e.symm)]
            rw [eS1, eS2]
            generalize Value.slice (some ⟨g1, if 1 = c1 then o1 else o1 + 8, none⟩) D (c1 - 1) = vA at *
            generalize Value.slice (some ⟨g2, if 1 = k2 then o2 else o2 + 8, none⟩) D (k2 - 1) = vB at *
            clear eS1 eS2 hk1 hm1 hk2 hm2 hg2
            clear X
            have HI2 := Lib.hid hI2
            have HUV := Lib.hid (And.intro hUl' hVl')
            clear hI2 hUl' hVl' hcc hcc2
            go_upto_region 24 with fail
            go_cut [88] (fun v wx => v = .bool (decide ((q : Int) < (len : Int))) ∧ wx = Y)
            case first =>
              go_wp2
              go_meet
              exact ⟨by simp, rfl⟩
            obtain ⟨h88, rfl⟩ := hcut
            have hbel := hQ.ld.bel
            go_wp2_with fail
            go_cut [18] (fun l wx => ∃ L : Int, l = .int .u8 L ∧ 0 ≤ L ∧ L ≤ 3 ∧ (60 ≤ q → L = 0) ∧ wx = wc)
            case first =>
              by_cases hql : q < len
              · obtain ⟨xa, rfl, hxb, hxc⟩ := HZ.out.2.2 q hql
                have hxc2 : wc.cell? (xa.add q) = some (.int .u8 (zs.getD q 0)) := by rw [← hxc]; exact hbel.cell (by unfold Addr.add; split <;> exact hxb)
                have hzb := bounds_u8 (HZ.out.wf q hql)
                generalize zs.getD q 0 = y at hxc2 hzb
                have hq1 : y.tmod 4 = y % 4 := Int.tmod_eq_emod_of_nonneg (by omega)
                have hq3 : IntKind.u8.wrap (y % 4) = y % 4 := by rw [wrap8m]; omega
                have hdd : decide ((q : Int) < (len : Int)) = true := by simp [hql]
                have hll : (q : Int) < (len : Int) := by omega
                subst h88
                clear hV hU hQ hiv
                go_wp2
                go_meet
                exact ⟨_, rfl, by omega, by omega, fun h => by omega, rfl⟩
              · have hdd : decide ((q : Int) < (len : Int)) = false := by simp; omega
                subst h88
                clear hV hU hQ hiv
                go_wp2
                go_meet
                exact ⟨0, rfl, by omega, by omega, fun h => rfl, rfl⟩
            obtain ⟨L, rfl, hL1, hL2, hL3, rfl⟩ := hcut
            clear h88
            go_upto_region 26 with fail
            go_cut [99] (fun v wx => v = .bool (decide (L ≠ 1 ∧ L ≠ 3)) ∧ wx = wc)
            case first =>
              clear hV hU hQ hiv
              by_cases h1 : L = 1
              · subst h1
                go_wp2
                go_meet
                exact ⟨by simp, rfl⟩
              · have h1b : (L != 1) = true := by simp [h1]
                by_cases h3 : L = 3
                · subst h3
                  go_wp2
                  go_meet
                  exact ⟨by simp, rfl⟩
                · have h3b : (L != 3) = true := by simp [h3]
                  go_wp2
                  go_meet
                  exact ⟨by simp [h1, h3], rfl⟩
            obtain ⟨h99, rfl⟩ := hcut
            go_wp2_with fail
            go_cut [14] (fun g wx => ∃ z3 : LSt, z3 = qtake (decide (L ≠ 1 ∧ L ≠ 3)) u z1 ∧ g = .int .i64 z3.r ∧ QW w wx ba ha bb hb K vA vB z3 U' V' ∧ Blk wx bv (vcell v) 69)
            case first =>
              by_cases hL0 : L ≠ 1 ∧ L ≠ 3
              · have hdd : decide (L ≠ 1 ∧ L ≠ 3) = true := decide_eq_true hL0
                rw [hdd] at h99
                subst h99
                have c0 := hU.cell 0 rfl
                have c1 := hU.cell 1 rfl
                have c2 := hU.cell 2 rfl
                have c3 := hU.cell 3 rfl
                have c4 := hU.cell 4 rfl
                have c5 := hU.cell 5 rfl
                have c6 := hU.cell 6 rfl
                have c7 := hU.cell 7 rfl
                have hab := hQ.answerB u iv1 hone
                have HH := Lib.hid hdd
                clear hL0 hdd
                go_wp2_with fail
                refine hab.mono ?_
                rintro e w9 ⟨rfl, hQ6, kp6⟩
                have hU6 := kp6.2 _ _ 69 (by decide) (by decide) (by decide) hU
                have hV6 := kp6.2 _ _ 69 (by decide) (by decide) (by decide) hV
                have hiv6 := hiv.kp kp6
                clear c0 c1 c2 c3 c4 c5 c6 c7 hab kp6 hQ hU hV hiv
                have c0 := hU6.cell 0 rfl
                have c1 := hU6.cell 1 rfl
                have c2 := hU6.cell 2 rfl
                have c3 := hU6.cell 3 rfl
                have c4 := hU6.cell 4 rfl
                have c5 := hU6.cell 5 rfl
                have c6 := hU6.cell 6 rfl
                have c7 := hU6.cell 7 rfl
                have htb := hQ6.takeB u HI2.out iv1 hiv6
                have hz3 : ltake u.1 u.2 (decide (u.2 < K)) z1 = qtake true u z1 := by
                  unfold qtake
                  rw [if_pos rfl, show z1.P = K from HI2.out.1.PK]
                rw [hz3] at htb
                clear hz3
                obtain ⟨z3, hz3⟩ : ∃ z3, qtake true u z1 = z3 := ⟨_, rfl⟩
                rw [hz3] at htb
                have HZ3 := Lib.hid hz3
                clear hz3
                go_wp2_with fail
                refine htb.mono ?_
                rintro e w10 ⟨sl, ok, rfl, hok1, hok2, hQ7, kp7⟩
                have hV7 := kp7.2 _ _ 69 (by decide) (by decide) (by decide) hV6
                clear c0 c1 c2 c3 c4 c5 c6 c7 htb kp7 hQ6 hU6 hV6 hiv6
                cases ok
                · have e1 := Lib.hid (hok2 rfl)
                  clear hok1 hok2
                  go_wp2
                  go_meet
                  exact ⟨z3, by rw [HH.out]; exact HZ3.out.symm, by rw [e1.out], hQ7, hV7⟩
                · obtain ⟨hrK, hr1, g8, c8, rfl, hcell⟩ := hok1 rfl
                  clear hok1 hok2
                  have hge : ¬ ((K : Int) ≤ (z1.r : Int)) := by omega
                  have hcv : IntKind.i64.wrap (z1.r : Int) = z1.r := wrapH _ (by omega)
                  have hwr : IntKind.i64.wrap ((z1.r : Int) + 1) = (z3.r : Int) := by rw [wrapH _ (by omega)]; omega
                  clear hr1
                  go_wp2
                  go_meet
                  exact ⟨z3, by rw [HH.out]; exact HZ3.out.symm, rfl, hQ7, hV7⟩
              · have hdd : decide (L ≠ 1 ∧ L ≠ 3) = false := decide_eq_false hL0
                rw [hdd] at h99
                subst h99
                have HH := Lib.hid hdd
                clear hL0 hdd
                go_wp2
                go_meet
                exact ⟨z1, by rw [HH.out]; rfl, rfl, hQ, hV⟩
            case rest =>
              clear hQ hU hV hiv
              obtain ⟨z3, hz3, rfl, hQ8, hV8⟩ := hcut
              clear h99
              have hIn := HI2.out.1
              have hT := qtake_same (decide (L ≠ 1 ∧ L ≠ 3)) u z1
              rw [← hz3] at hT
              obtain ⟨t1, t2, t3⟩ := hT
              have f1 := (hIn.vs v (by simp)).1
              have f2 := (hIn.vs v (by simp)).2
              have f3 := hIn.rg
              have f4 := hIn.gq
              have f5 := hIn.qK
              have f6 := hIn.pr
              simp only at f1 f2 f3 f4 f5 f6
              have haa := hQ8.answerA v (by omega) (by omega) (by omega) (by omega) (by omega)
              have hIr : QI K 0 (if q + 1 < 60 then 100 else 160 - (q + 1)) ⟨qans (decide (L ≠ 2 ∧ L ≠ 3)) v z3, U', V'⟩ := by
                rw [hz3]
                by_cases h60 : 60 ≤ q
                · have e0 := hL3 h60
                  subst e0
                  have h1 := HI2.out
                  rw [if_neg (by omega)] at h1
                  have h2 := h1.round (by rw [HUV.out.1]; omega) (by rw [HUV.out.2]; omega)
                  rw [if_neg (by omega), show 160 - (q + 1) = 160 - q - 1 from by omega]
                  exact h2
                · have h1 := (HI2.out.take (decide (L ≠ 1 ∧ L ≠ 3)) (by rw [HUV.out.1]; omega) (by rw [List.length_cons, HUV.out.2]; omega)).ans (decide (L ≠ 2 ∧ L ≠ 3)) (by rw [HUV.out.1]; omega) (by rw [HUV.out.2]; omega)
                  rw [show (if q + 1 < 60 then 100 else 160 - (q + 1)) = 100 from by split <;> omega]
                  exact h1
              clear hIn t1 t2 t3 f1 f2 f3 f4 f5 f6 hz3 hL3
              have HF := Lib.hid hIr
              clear hIr
              go_upto_region 35 with fail
              go_cut [146] (fun v wx => v = .bool (decide (L ≠ 2 ∧ L ≠ 3)) ∧ wx = wc)
              case first =>
                clear haa hQ8 hV8
                by_cases h1 : L = 2
                · subst h1
                  go_wp2
                  go_meet
                  exact ⟨by simp, rfl⟩
                · have h1b : (L != 2) = true := by simp [h1]
                  by_cases h3 : L = 3
                  · subst h3
                    go_wp2
                    go_meet
                    exact ⟨by simp, rfl⟩
                  · have h3b : (L != 3) = true := by simp [h3]
                    go_wp2
                    go_meet
                    exact ⟨by simp [h1, h3], rfl⟩
              obtain ⟨h146, rfl⟩ := hcut
              go_wp2_with fail
              by_cases hL9 : L ≠ 2 ∧ L ≠ 3
              · have hdd : decide (L ≠ 2 ∧ L ≠ 3) = true := decide_eq_true hL9
                rw [hdd] at h146
                subst h146
                have HH := Lib.hid hdd
                clear hL9 hdd
                have c0 := hV8.cell 0 rfl
                have c1 := hV8.cell 1 rfl
                have c2 := hV8.cell 2 rfl
                have c3 := hV8.cell 3 rfl
                have c4 := hV8.cell 4 rfl
                have c5 := hV8.cell 5 rfl
                have c6 := hV8.cell 6 rfl
                have c7 := hV8.cell 7 rfl
                go_wp2_with fail
                refine haa.mono ?_
                rintro e w9 ⟨n9, rfl, hQ9, kp9⟩
                have hV9 := kp9.2 _ _ 69 (by decide) (by decide) (by decide) hV8
                clear c0 c1 c2 c3 c4 c5 c6 c7 haa kp9 hQ8 hV8
                have c0 := hV9.cell 0 rfl
                have c1 := hV9.cell 1 rfl
                have c2 := hV9.cell 2 rfl
                have c3 := hV9.cell 3 rfl
                have c4 := hV9.cell 4 rfl
                have c5 := hV9.cell 5 rfl
                have c6 := hV9.cell 6 rfl
                have c7 := hV9.cell 7 rfl
                have hta := hQ9.takeA v
                go_wp2_with fail
                refine hta.mono ?_
                rintro e w10 ⟨rfl, hQ10, -⟩
                clear c0 c1 c2 c3 c4 c5 c6 c7 hta hQ9 hV9
                go_wp2
                exact ⟨⟨lans v.1 v.2 z3, U', V', q + 1, by omega, rfl, rfl, hQ10, by have := HF.out; rw [HH.out] at this; exact this, by rw [HUV.out.1, HUV.out.2], by rw [HUV.out.1]; exact Nat.le_refl _, .inl HUV.out.1⟩, by simp [intOf]; omega⟩
              · have hdd : decide (L ≠ 2 ∧ L ≠ 3) = false := decide_eq_false hL9
                rw [hdd] at h146
                subst h146
                have HH := Lib.hid hdd
                clear hL9 hdd
                go_wp2
                exact ⟨⟨z3, U', V', q + 1, by omega, rfl, rfl, hQ8, by have := HF.out; rw [HH.out] at this; exact this, by rw [HUV.out.1, HUV.out.2], by rw [HUV.out.1]; exact Nat.le_refl _, .inl HUV.out.1⟩, by simp [intOf]; omega⟩
        · have hlt2 : ¬ (q : Int) < 400 := by omega
          have hq4 : q = 400 := by omega
          subst hq4
          obtain ⟨e1, e2, e3⟩ := QI.done (K := K) (by have := hI; rw [if_neg (by decide)] at this; exact this) rfl
          simp only at e1 e2 e3
          have hPK : z.P = K := hI.1.PK
          have hs := hQ.ld.sent
          have hx := hQ.ld.nexts
          have hh := hQ.ld.hold
          have hbel := hQ.ld.bel
          rw [e3, e2, Nat.sub_self] at hs
          rw [hPK, e3, Nat.sub_self] at hx
          rw [e1]
          clear hI hQ hl1 hl2 hl3 e1 e2 e3 hPK
          go_wp2_with fail
          refine hh.mono ?_
          rintro e w5 ⟨rfl, rfl⟩
          go_wp2_with fail
          refine hs.mono ?_
          rintro e w6 ⟨rfl, rfl⟩
          go_wp2_with fail
          refine hh.mono ?_
          rintro e w7 ⟨rfl, rfl⟩
          go_wp2_with fail
          refine hx.mono ?_
          rintro e w8 ⟨rfl, rfl⟩
          go_wp2
          go_ret
          exact ⟨rfl, hbel⟩

set_option maxRecDepth 100000 in
theorem bloses_long (n0 : Int) (a : Option Addr) (len cap : Nat) (d0 : Int) (w : World) (h : 60 < len) (hm : len ≤ 9223372036854775807) : Calls Try.prog 12 #[.int .u8 n0, .slice a len cap, .int .u8 d0] w fun e w' => e = .returned (.bool true) ∧ Below w.heap.size w w' := by
  have hd : (60 : Int) < (len : Int) := by omega
  go_enter Try.func12, Try.ntmps12
  go_wp2_with fail
  refine (awake11_any _).mono ?_
  rintro e w0 ⟨rfl, hB0⟩
  go_wp2_with fail
  refine (awake11_any _).mono ?_
  rintro e w1 ⟨rfl, hB1⟩
  go_wp2
  go_ret
  exact ⟨rfl, bthen hB0 hB1⟩
theorem basicloses_row (n0 : Int) (a : Option Addr) (len cap : Nat) (zs : List Int) (d0 : Int) (w : World) (hn : 0 ≤ n0 ∧ n0 ≤ 255) (hz : Came w .u8 a len zs) (hm : len ≤ maxLen) (hd0 : 0 ≤ d0 ∧ d0 ≤ 255) :
    Calls Try.prog 12 #[.int .u8 n0, .slice a len cap, .int .u8 d0] w fun e w' => e = .returned (.bool true) ∧ Below w.heap.size w w' := by
  by_cases h : len ≤ 60
  · exact bloses_b n0 a len cap d0 zs w hz h hn hd0
  · exact bloses_long n0 a len cap d0 w (by omega) (by unfold maxLen at hm; omega)
end Go.Proofs.Ytadheikcgdhcdaa
