/-
  Each once, in order, by the cyclic method, over lines that lose and that hold units for a while: the walk.
-/
import Derived.Test.YtadheikcgdhcdaaLosR
import Derived.Test.YtadheikcgdhcdaaWAny
namespace Go.Proofs.Ytadheikcgdhcdaa
open Go.RowKit
set_option linter.unusedVariables false
set_option linter.unusedSimpArgs false

/-- What holds behind so many rounds. -/
def CI (K M q : Nat) (z : CLt) (U : List (Nat × Bool)) (V : List Nat) : Prop := CB K M z V ∧ UB z U ∧ (60 ≤ q → cme K z U V ≤ 860 - q)
theorem CI.round {K M q : Nat} {z : CLt} {U U' : List (Nat × Bool)} {V V' : List Nat} {u : Nat × Bool} {v : Nat} (h : CI K M q z U V) (eU : U ++ [(gnextX M z, gnextM M z)] = u :: U') (eV : V ++ [z.r] = v :: V') (lU : U'.length ≤ 5) (lV : V'.length ≤ 5) (du dv : Bool) (hd : 60 ≤ q → du = true ∧ dv = true) : CI K M (q + 1) (gans dv v (gtake du u (gnext M z))) U' V' := by
  obtain ⟨h1, h2, h3⟩ := h
  have hN := h1.next
  rw [eV] at hN
  have hU := h2.next h1
  rw [eU] at hU
  have hA := (CB.take (U := U) hN (hU u (by simp)).1 du).ans dv
  refine ⟨hA, fun x hx => ?_, fun hq => ?_⟩
  · rw [(gans_eq dv v _).1, (gtake_eq du u _).2.1]
    exact hU x (by simp [hx])
  · by_cases h60 : 60 ≤ q
    · obtain ⟨rfl, rfl⟩ := hd h60
      have := cme_round h1 h2 eU eV lU lV
      have := h3 h60
      omega
    · have := cme_bd hA (U := U') (by omega) (by omega)
      omega
set_option maxRecDepth 100000 in
set_option maxHeartbeats 16000000 in
theorem closes_b (n0 m1 m2 : Int) (a : Option Addr) (len cap : Nat) (d0 : Int) (zs : List Int) (w : World) (hz : Came w .u8 a len zs) (hm : len ≤ 60) (hn : 0 ≤ n0 ∧ n0 ≤ 255) (hd0 : 0 ≤ d0 ∧ d0 ≤ 255) (hm1 : 0 ≤ m1 ∧ m1 ≤ 255) (hm2 : 0 ≤ m2 ∧ m2 ≤ 255) :
    Calls Try.prog 11 #[.int .u8 n0, .int .u8 m1, .int .u8 m2, .slice a len cap, .int .u8 d0] w fun e w' => e = .returned (.bool true) ∧ Below w.heap.size w w' := by
  have HZ := Lib.hid hz
  have hd : ¬ ((60 : Int) < (len : Int)) := by omega
  have hw1 : IntKind.i64.wrap n0 = n0 := wrapH _ (by omega)
  obtain ⟨K, hK⟩ : ∃ K : Nat, n0 % 20 = K := ⟨(n0 % 20).toNat, by omega⟩
  have hKt : n0.tmod 20 = (K : Int) := by rw [Int.tmod_eq_emod_of_nonneg (by omega)]; exact hK
  have hK39 : K ≤ 19 := by omega
  have hw2 : IntKind.i64.wrap d0 = d0 := wrapH _ (by omega)
  obtain ⟨D, hD⟩ : ∃ D : Nat, d0 % 6 = D := ⟨(d0 % 6).toNat, by omega⟩
  have hDt : d0.tmod 6 = (D : Int) := by rw [Int.tmod_eq_emod_of_nonneg (by omega)]; exact hD
  have hD5 : D ≤ 5 := by omega
  have hw3 : IntKind.i64.wrap (1 + (D : Int)) = ((D + 1 : Nat) : Int) := by rw [wrapH _ (by omega)]; omega
  have hwa : IntKind.i64.wrap m1 = m1 := wrapH _ (by omega)
  have hwb : IntKind.i64.wrap m2 = m2 := wrapH _ (by omega)
  obtain ⟨A, hA⟩ : ∃ A : Int, m1 % 12 = A := ⟨_, rfl⟩
  have hAt : m1.tmod 12 = A := by rw [Int.tmod_eq_emod_of_nonneg (by omega)]; exact hA
  obtain ⟨B, hB⟩ : ∃ B : Int, m2 % 60 = B := ⟨_, rfl⟩
  have hBt : m2.tmod 60 = B := by rw [Int.tmod_eq_emod_of_nonneg (by omega)]; exact hB
  obtain ⟨n1, hn1⟩ : ∃ n1 : Int, 1 + A = n1 := ⟨_, rfl⟩
  obtain ⟨n2, hn2⟩ : ∃ n2 : Int, 3 + B = n2 := ⟨_, rfl⟩
  have hA1 : IntKind.i64.wrap (1 + A) = n1 := by rw [wrapH _ (by omega)]; exact hn1
  have hB1 : IntKind.i64.wrap (3 + B) = n2 := by rw [wrapH _ (by omega)]; exact hn2
  have hnb1 : 1 ≤ n1 ∧ n1 ≤ 12 := by omega
  have hnb2 : 3 ≤ n2 ∧ n2 ≤ 62 := by omega
  obtain ⟨M, hMG, hM12⟩ : ∃ M : Nat, MG n1 n2 M ∧ M ≤ 12 := by
    by_cases h : n1 ≤ n2 / 3
    · exact ⟨n1.toNat, ⟨by omega, by omega, .inl (by omega), by omega⟩, by omega⟩
    · exact ⟨(n2 / 3).toNat, ⟨by omega, by omega, .inr (by omega), by omega⟩, by omega⟩
  have hM1 := hMG.2.2.2
  clear hz hK hn hD hd0 hA hB hn1 hn2 hm1 hm2
  go_enter Try.func11, Try.ntmps11
  go_wp2_with fail
  refine (awake12_any _).mono ?_
  rintro e w0 ⟨rfl, hB0⟩
  go_wp2_with fail
  refine (COf.new w w0 hB0 200 100000 n1 n2 hnb1.1 (by omega)).mono ?_
  rintro e w2 ⟨ba, ha, rfl, hA, -⟩
  go_wp2_with fail
  refine (COf.new w2 w2 (Below.refl _ _) 200 100000 n1 n2 hnb1.1 (by omega)).mono ?_
  rintro e w4 ⟨bb, hb, rfl, hA2, -⟩
  have hT : LG n1 n2 w w4 ba ha bb hb ⟨0, 0, 0, 0, 0, false⟩ := TC.to (TC.two hA hA2) rfl rfl
  clear hB0 hA hA2
  go_wp2_with fail
  go_loopw [16] (fun i wr => ∃ q : Nat, q ≤ K ∧ i = .int .i64 q ∧ LG n1 n2 w wr ba ha bb hb ⟨0, 0, q, 0, 0, false⟩) (fun i _ => 50 - (intOf i).toNat)
  case atStart => exact ⟨0, Nat.zero_le _, rfl, hT⟩
  case round =>
    clear hT
    obtain ⟨q, hq, rfl, hL⟩ := hrel
    by_cases hlt : q < K
    · have hlt2 : (q : Int) < (K : Int) := by omega
      have hu : IntKind.u8.wrap (q : Int) = q := by rw [wrap8m]; omega
      have hw4 : IntKind.i64.wrap ((q : Int) + 1) = ((q + 1 : Nat) : Int) := by rw [wrapH _ (by omega)]; omega
      go_wp2_with fail
      refine hL.hold.mono ?_
      rintro e w5 ⟨rfl, rfl⟩
      go_wp2_with fail
      have hL2 := hL.below ((Below.refl _ _).alloc (Nat.le_refl _) (.cells #[.int .u8 (q : Int), .int .u8 1, .int .u8 2] 5 (0, 0)))
      have hpt := hL2.put (Nat.le_refl _) (Nat.zero_le _) (by show q ≤ 39; omega) _ (Oct.new w5 (msg3 q) 5 (0, 0) 3)
      refine hpt.mono ?_
      rintro e w6 ⟨rfl, k6, -⟩
      clear hpt hL hL2
      go_wp2
      exact ⟨⟨q + 1, by omega, rfl, k6⟩, by simp [intOf]; omega⟩
    · have hlt2 : ¬ (q : Int) < (K : Int) := by omega
      have hqK : q = K := by omega
      subst hqK
      clear hlt hq
      have hQ0 := QG.new hL
      have hI0 : CI q M 0 ⟨0, 0, q, 0, 0, false⟩ [] [] := ⟨⟨rfl, hK39, hM1, hM12, Nat.le_refl _, Nat.le_refl _, Nat.zero_le _, Nat.zero_le _, Nat.le_refl _, by simp, by simp⟩, fun u hu => by simp at hu, fun h => by omega⟩
      clear hL
      generalize q = K at *
      go_wp2_with fail
      go_loopw [18, 19, 20, 21] (fun vu vv g i wr => ∃ (z : CLt) (U : List (Nat × Bool)) (V : List Nat) (q : Nat), q ≤ 900 ∧ g = .int .i64 z.r ∧ i = .int .i64 q ∧ QG n1 n2 w wr ba ha bb hb vu vv z U V ∧ CI K M q z U V ∧ U.length = V.length ∧ U.length ≤ D ∧ (U.length = D ∨ U.length = q)) (fun _ _ _ i _ => 1700 - (intOf i).toNat)
      case atStart => exact ⟨_, [], [], 0, by omega, rfl, rfl, hQ0, hI0, rfl, Nat.zero_le _, .inr rfl⟩
      case round =>
        clear hQ0 hI0
        obtain ⟨z, U, V, q, hq, rfl, rfl, hQ, hI, hl1, hl2, hl3⟩ := hrel
        by_cases hlt : q < 900
        · have hlt2 : (q : Int) < 900 := by omega
          have hna := hQ.nextA hMG hI.1
          have n1e : (gnext M z).r = z.r := (gnext_eq M z).2.1
          have hUl : U.length ≤ 1000 := by omega
          have hVl : V.length ≤ 1000 := by omega
          have hCN := hI.1.next
          have hw1 := hCN.win
          have hw2 := hCN.pr
          have hw3b := hCN.rq
          have HI := Lib.hid hI
          have HL := Lib.hid (And.intro hl1 (And.intro hl2 hl3))
          clear hI hl1 hl2 hl3 hCN
          go_wp2_with fail
          refine hna.mono ?_
          rintro e w5 ⟨iv, rfl, hiv, hQ1⟩
          clear hna hQ
          have hbA : Below w5.heap.size w5 (w5.alloc (.cells #[.int .u8 127, .int .u8 (gnum (gnextX M z, gnextM M z)), .bool true, .bool true, .int .u8 (gkind (gnextX M z, gnextM M z)), .int .u8 0, .bool false, iv] 69)) := (Below.refl _ _).alloc (Nat.le_refl _) _
          have hU := Blk.new w5 (gcell (gnextX M z, gnextM M z) iv) 69
          have hne : u18.ownBlock ≠ some w5.heap.size := fun e => by
            obtain ⟨xs, h1, h2⟩ := hQ1.us
            have := (h1.own e).2.1
            omega
          have hQ2 := hQ1.below hbA
          have hiv2 := hiv.kp (KpB.below hbA)
          clear hQ1 hiv hbA
          go_wp2_with (first | (at_builtin; refine wpList_gpushU hQ2 (by rfl) (.tmp 76) (.tmp 79) (by rfl) (by rfl) w5.heap.size 1 (by rfl) (gnextX M z, gnextM M z) iv hiv2 hU hne hUl ?_; intro v1 w6 hQ3; clear hQ2 hiv2 hU hne) | fail)
          have hnb := hQ3.nextB
          rw [n1e] at hnb
          refine hnb.mono ?_
          rintro e w7 ⟨rfl, hQ4⟩
          clear hnb hQ3
          have hbA : Below w7.heap.size w7 (w7.alloc (.cells #[.int .u8 ((127 + (z.r : Int)) % 128), .int .u8 127, .bool true, .bool true, .int .u8 0, .int .u8 0, .bool false, .slice none 0 0] 69)) := (Below.refl _ _).alloc (Nat.le_refl _) _
          have hV := Blk.new w7 (hcell z.r) 69
          have hQ5 := hQ4.below hbA
          clear hQ4 hbA
          go_upto_region 20 with (first | (at_builtin; refine wpList_gpushV hQ5 (by rfl) (.tmp 81) (.tmp 84) (by rfl) (by rfl) w7.heap.size 1 (by rfl) z.r hV hVl ?_; intro v2 w8 hQ6; obtain ⟨a1, c1, rfl⟩ := hQ6.shape; clear hQ5 hV) | fail)
          have eU : (U ++ [(gnextX M z, gnextM M z)]).length = U.length + 1 := by simp
          have eV : (V ++ [z.r]).length = V.length + 1 := by simp
          rw [eU] at hQ6
          have hw5 : IntKind.i64.wrap ((q : Int) + 1) = ((q + 1 : Nat) : Int) := by rw [wrapH _ (by omega)]; omega
          go_cut [103] (fun v wx => v = .bool false ∧ wx = w8)
          case first =>
            have hh := hQ6.ld.hold
            have hs := hQ6.ld.sent
            have hwt := hQ6.ld.waiting
            obtain ⟨j1, j2, j3, j4⟩ := hMG
            obtain ⟨y, hy⟩ : ∃ y : Nat, (gnext M z).q - (gnext M z).p = y := ⟨_, rfl⟩
            rw [hy] at hs hwt hw1
            have g1 : ¬ n1 < (y : Int) := by omega
            have g2 : ¬ n2 < 3 * (y : Int) := by omega
            clear hQ6 HI HL eU eV hy
            go_wp2_with fail
            refine hh.mono ?_
            rintro e w9 ⟨rfl, rfl⟩
            go_wp2_with fail
            refine hs.mono ?_
            rintro e w10 ⟨rfl, rfl⟩
            go_wp2_with fail
            refine hh.mono ?_
            rintro e w11 ⟨rfl, rfl⟩
            go_wp2_with fail
            refine hs.mono ?_
            rintro e w12 ⟨rfl, rfl⟩
            by_cases hy1 : (1 : Int) < (y : Int)
            · go_wp2_with fail
              refine hh.mono ?_
              rintro e w13 ⟨rfl, rfl⟩
              go_wp2_with fail
              refine hwt.mono ?_
              rintro e w14 ⟨rfl, rfl⟩
              go_wp2
              go_meet
              exact ⟨by simp; omega, rfl⟩
            · go_wp2
              go_meet
              exact ⟨by simp; omega, rfl⟩
          obtain ⟨rfl, hwc⟩ := hcut
          rw [hwc]
          clear hwc hw1 hw2 hw3b
          by_cases hcc : U.length < D
          · have hcc2 : ((U.length + 1 : Nat) : Int) < ((D + 1 : Nat) : Int) := by omega
            obtain ⟨l1, l2, l3⟩ := HL.out
            have hq6 : q + 1 < 60 := by omega
            have hI2 : CI K M (q + 1) (gnext M z) (U ++ [(gnextX M z, gnextM M z)]) (V ++ [z.r]) := ⟨HI.out.1.next, HI.out.2.1.next HI.out.1, fun h => by omega⟩
            clear HI HL
            rw [← n1e]
            go_wp2
            exact ⟨⟨gnext M z, _, _, q + 1, by omega, rfl, rfl, hQ6, hI2, by rw [eU, eV]; omega, by rw [eU]; omega, .inr (by rw [eU]; omega)⟩, by simp [intOf]; omega⟩
          · have hcc2 : ¬ ((U.length + 1 : Nat) : Int) < ((D + 1 : Nat) : Int) := by omega
            obtain ⟨l1, l2, l3⟩ := HL.out
            have hI2 := HI.out
            clear HI HL
            have hUD : U.length = D := by omega
            have hVD : V.length = D := by omega
            obtain ⟨u, U', hUU, hUl'⟩ : ∃ u U', U ++ [(gnextX M z, gnextM M z)] = u :: U' ∧ U'.length = D := by
              cases hh : U ++ [(gnextX M z, gnextM M z)] with
              | nil => simp at hh
              | cons u U' => exact ⟨u, U', rfl, by rw [hh] at eU; simp at eU; omega⟩
            obtain ⟨v, V', hVV, hVl'⟩ : ∃ v V', V ++ [z.r] = v :: V' ∧ V'.length = D := by
              cases hh : V ++ [z.r] with
              | nil => simp at hh
              | cons v V' => exact ⟨v, V', rfl, by rw [hh] at eV; simp at eV; omega⟩
            have hCN := hI2.1.next
            have hUN := hI2.2.1.next hI2.1
            have hIr := fun du dv hd => CI.round hI2 hUU hVV (by omega) (by omega) du dv hd
            rw [hVV] at hCN
            rw [hUU] at hUN
            clear hI2
            rw [hUU, hVV] at hQ6
            have hq60 : q < 60 ∨ 60 ≤ q := by omega
            rw [hUD] at hQ6 hcc hcc2 ⊢
            clear hUU hVV eU eV l1 l2 l3 hUD hVD hUl hVl
            generalize gnext M z = z1 at *
            rw [← n1e]
            clear n1e
            obtain ⟨g1, o1, k1, iv1, e1, hk1, hm1, hiv1, hcu, hQ7⟩ := hQ6.popU
            simp only [Value.slice.injEq] at e1
            obtain ⟨rfl, -, rfl⟩ := e1
            obtain ⟨g2, o2, k2, rfl, hk2, hm2, hcv, hQ8⟩ := hQ7.popV
            rw [hUl'] at hk1 hQ8
            rw [hVl'] at hk2 hQ8 ⊢
            have hone := hiv1.1
            have hg2 : g2 < w8.heap.size := World.block_lt_of_cell? w8 ⟨g2, o2 + 0, none⟩ (hcv 0 _ rfl)
            have c0 : w8.cell? ⟨g1, o1, none⟩ = _ := hcu 0 _ rfl
            have c1 := hcu 1 _ rfl
            have c2 := hcu 2 _ rfl
            have c3 := hcu 3 _ rfl
            have c4 := hcu 4 _ rfl
            have c5 := hcu 5 _ rfl
            have c6 := hcu 6 _ rfl
            have c7 := hcu 7 _ rfl
            have hR0 := Blk.new w8 unit0 69
            have hb9 : Below w8.heap.size w8 ((w8.alloc (.cells unit0.toArray 69)).setRow w8.heap.size #[.int .u8 127, .int .u8 (gnum u), .bool true, .bool true, .int .u8 (gkind u), .int .u8 0, .bool false, iv1]) := below_row ((Below.refl _ _).alloc (Nat.le_refl _) _) (Nat.le_refl _) _
            have hU := Blk.row hR0 (gcell u iv1)
            have hK := hR0
            unfold Blk at hK
            have e0 : ((w8.alloc (.cells unit0.toArray 69)).setRow w8.heap.size #[.int .u8 127, .int .u8 (gnum u), .bool true, .bool true, .int .u8 (gkind u), .int .u8 0, .bool false, iv1]).cell? ⟨g2, o2, none⟩ = _ := (hb9.cell (p := ⟨g2, o2 + 0, none⟩) hg2).trans (hcv 0 _ rfl)
            have e1 := (hb9.cell (p := ⟨g2, o2 + 1, none⟩) hg2).trans (hcv 1 _ rfl)
            have e2 := (hb9.cell (p := ⟨g2, o2 + 2, none⟩) hg2).trans (hcv 2 _ rfl)
            have e3 := (hb9.cell (p := ⟨g2, o2 + 3, none⟩) hg2).trans (hcv 3 _ rfl)
            have e4 := (hb9.cell (p := ⟨g2, o2 + 4, none⟩) hg2).trans (hcv 4 _ rfl)
            have e5 := (hb9.cell (p := ⟨g2, o2 + 5, none⟩) hg2).trans (hcv 5 _ rfl)
            have e6 := (hb9.cell (p := ⟨g2, o2 + 6, none⟩) hg2).trans (hcv 6 _ rfl)
            have e7 := (hb9.cell (p := ⟨g2, o2 + 7, none⟩) hg2).trans (hcv 7 _ rfl)
            have hQ9 := hQ8.below hb9
            have hiv9 := hiv1.kp (KpB.below hb9)
            obtain ⟨X, hX⟩ : ∃ X, X = (w8.alloc (.cells #[.int .u8 0, .int .u8 0, .bool false, .bool false, .int .u8 0, .int .u8 0, .bool false, .slice none 0 0] 69)).setRow w8.heap.size #[.int .u8 127, .int .u8 (gnum u), .bool true, .bool true, .int .u8 (gkind u), .int .u8 0, .bool false, iv1] := ⟨_, rfl⟩
            have hsz : w8.heap.size + 1 = X.heap.size := by rw [hX]; simp [World.setRow]
            have hU9 : Blk X w8.heap.size (gcell u iv1) 69 := by rw [hX]; exact hU
            have hQ9' : QG n1 n2 w X ba ha bb hb _ _ z1 U' V' := hX ▸ hQ9
            have hiv9' : Iv X u.2 u.1 iv1 := hX ▸ hiv9
            have hbX : Below X.heap.size X (X.alloc (.cells #[.int .u8 ((127 + (v : Int)) % 128), .int .u8 127, .bool true, .bool true, .int .u8 0, .int .u8 0, .bool false, .slice none 0 0] 69)) := (Below.refl _ _).alloc (Nat.le_refl _) _
            have hV : Blk (X.alloc (.cells #[.int .u8 ((127 + (v : Int)) % 128), .int .u8 127, .bool true, .bool true, .int .u8 0, .int .u8 0, .bool false, .slice none 0 0] 69)) X.heap.size (hcell v) 69 := Blk.new X (hcell v) 69
            have hQ := hQ9'.below hbX
            have hiv := hiv9'.kp (KpB.below hbX)
            have hU := hU9.below hbX
            have HX := Lib.hid hX
            clear hQ6 hQ7 hQ8 hiv1 hcu hcv hX hQ9 hQ9' hiv9 hiv9' hb9 hbX hU9
            go_upto_region 25 with (refine wpList_store_row rfl 69 (.tmp 22) (.tmp 110) rfl w8.heap.size #[.int .u8 127, .int .u8 (gnum u), .bool true, .bool true, .int .u8 (gkind u), .int .u8 0, .bool false, iv1] rfl rfl 69 _ hK (by kernel_rfl) rfl (by simp [Value.oneCell']; exact hone) ?_)
            clear c0 c1 c2 c3 c4 c5 c6 c7 e0 e1 e2 e3 e4 e5 e6 e7 hK hR0
            rw [← HX.out]
            clear HX hsz
            generalize X.heap.size = bv at *
            generalize w8.heap.size = bu at *
            generalize X.alloc (.cells #[.int .u8 ((127 + (v : Int)) % 128), .int .u8 127, .bool true, .bool true, .int .u8 0, .int .u8 0, .bool false, .slice none 0 0] 69) = Y at *
            go_upto_region 27 with fail
            have eS1 : (if c1 = 1 then some (⟨g1, o1, none⟩ : Addr) else some ⟨g1, o1 + 8, none⟩) = some ⟨g1, if 1 = c1 then o1 else o1 + 8, none⟩ := by
              by_cases h : c1 = 1
              · rw [if_pos h, if_pos h.symm]
              · rw [if_neg h, if_neg (fun e => h e.symm)]
            have eS2 : (if k2 = 1 then some (⟨g2, o2, none⟩ : Addr) else some ⟨g2, o2 + 8, none⟩) = some ⟨g2, if 1 = k2 then o2 else o2 + 8, none⟩ := by
              by_cases h : k2 = 1
              · rw [if_pos h, if_pos h.symm]
              · rw [if_neg h, if_neg (fun e => h e.symm)]
            rw [eS1, eS2]
            generalize Value.slice (some ⟨g1, if 1 = c1 then o1 else o1 + 8, none⟩) D (c1 - 1) = vA at *
            generalize Value.slice (some ⟨g2, if 1 = k2 then o2 else o2 + 8, none⟩) D (k2 - 1) = vB at *
            clear eS1 eS2 hk1 hm1 hk2 hm2 hg2
            clear X
            have HI2 := Lib.hid (And.intro hCN hUN)
            have HIR := Lib.hid hIr
            have HUV := Lib.hid (And.intro hUl' hVl')
            clear hCN hUN hIr hUl' hVl' hcc hcc2
            go_upto_region 28 with fail
            go_cut [121] (fun v wx => v = .bool (decide ((q : Int) < (len : Int))) ∧ wx = Y)
            case first =>
              go_wp2
              go_meet
              exact ⟨by simp, rfl⟩
            obtain ⟨h88, rfl⟩ := hcut
            have hbel := hQ.ld.bel
            go_wp2_with fail
            go_cut [24] (fun l wx => ∃ L : Int, l = .int .u8 L ∧ 0 ≤ L ∧ L ≤ 3 ∧ (60 ≤ q → L = 0) ∧ wx = wc)
            case first =>
              by_cases hql : q < len
              · obtain ⟨xa, rfl, hxb, hxc⟩ := HZ.out.2.2 q hql
                have hxc2 : wc.cell? (xa.add q) = some (.int .u8 (zs.getD q 0)) := by rw [← hxc]; exact hbel.cell (by unfold Addr.add; split <;> exact hxb)
                have hzb := bounds_u8 (HZ.out.wf q hql)
                generalize zs.getD q 0 = y at hxc2 hzb
                have hq1 : y.tmod 4 = y % 4 := Int.tmod_eq_emod_of_nonneg (by omega)
                have hq3 : IntKind.u8.wrap (y % 4) = y % 4 := by rw [wrap8m]; omega
                have hdd : decide ((q : Int) < (len : Int)) = true := by simp [hql]
                have hll : (q : Int) < (len : Int) := by omega
                subst h88
                clear hV hU hQ hiv
                go_wp2
                go_meet
                exact ⟨_, rfl, by omega, by omega, fun h => by omega, rfl⟩
              · have hdd : decide ((q : Int) < (len : Int)) = false := by simp; omega
                subst h88
                clear hV hU hQ hiv
                go_wp2
                go_meet
                exact ⟨0, rfl, by omega, by omega, fun h => rfl, rfl⟩
            obtain ⟨L, rfl, hL1, hL2, hL3, rfl⟩ := hcut
            clear h88
            go_upto_region 30 with fail
            go_cut [132] (fun v wx => v = .bool (decide (L ≠ 1 ∧ L ≠ 3)) ∧ wx = wc)
            case first =>
              clear hV hU hQ hiv
              by_cases h1 : L = 1
              · subst h1
                go_wp2
                go_meet
                exact ⟨by simp, rfl⟩
              · have h1b : (L != 1) = true := by simp [h1]
                by_cases h3 : L = 3
                · subst h3
                  go_wp2
                  go_meet
                  exact ⟨by simp, rfl⟩
                · have h3b : (L != 3) = true := by simp [h3]
                  go_wp2
                  go_meet
                  exact ⟨by simp [h1, h3], rfl⟩
            obtain ⟨h99, rfl⟩ := hcut
            go_wp2_with fail
            go_cut [20] (fun g wx => ∃ z3 : CLt, z3 = gtake (decide (L ≠ 1 ∧ L ≠ 3)) u z1 ∧ g = .int .i64 z3.r ∧ QG n1 n2 w wx ba ha bb hb vA vB z3 U' V' ∧ Blk wx bv (hcell v) 69)
            case first =>
              by_cases hL0 : L ≠ 1 ∧ L ≠ 3
              · have hdd : decide (L ≠ 1 ∧ L ≠ 3) = true := decide_eq_true hL0
                rw [hdd] at h99
                subst h99
                have c0 := hU.cell 0 rfl
                have c1 := hU.cell 1 rfl
                have c2 := hU.cell 2 rfl
                have c3 := hU.cell 3 rfl
                have c4 := hU.cell 4 rfl
                have c5 := hU.cell 5 rfl
                have c6 := hU.cell 6 rfl
                have c7 := hU.cell 7 rfl
                have hab := hQ.answerB u iv1 hone
                have HH := Lib.hid hdd
                clear hL0 hdd
                go_wp2_with fail
                refine hab.mono ?_
                rintro e w9 ⟨rfl, hQ6, kp6⟩
                have hU6 := kp6.2 _ _ 69 (by decide) (by decide) (by decide) hU
                have hV6 := kp6.2 _ _ 69 (by decide) (by decide) (by decide) hV
                have hiv6 := hiv.kpc kp6
                clear c0 c1 c2 c3 c4 c5 c6 c7 hab kp6 hQ hU hV hiv
                have c0 := hU6.cell 0 rfl
                have c1 := hU6.cell 1 rfl
                have c2 := hU6.cell 2 rfl
                have c3 := hU6.cell 3 rfl
                have c4 := hU6.cell 4 rfl
                have c5 := hU6.cell 5 rfl
                have c6 := hU6.cell 6 rfl
                have c7 := hU6.cell 7 rfl
                have hu1 := HI2.out.2 u (by simp)
                have hqK := HI2.out.1.qK
                have hrq := HI2.out.1.rq
                have htb := hQ6.takeB u (by omega) (by omega) iv1 hiv6
                have HB := Lib.hid (And.intro hu1 (And.intro hqK hrq))
                clear hu1 hqK hrq
                obtain ⟨z3, hz3⟩ : ∃ z3, gtake true u z1 = z3 := ⟨_, rfl⟩
                rw [hz3] at htb
                have HZ3 := Lib.hid hz3
                clear hz3
                go_wp2_with fail
                refine htb.mono ?_
                rintro e w10 ⟨sl, ok, rfl, hok1, hok2, hQ7, kp7⟩
                have hV7 := kp7.2 _ _ 69 (by decide) (by decide) (by decide) hV6
                clear c0 c1 c2 c3 c4 c5 c6 c7 htb kp7 hQ6 hU6 hV6 hiv6
                cases ok
                · have e1 := Lib.hid (hok2 rfl)
                  clear hok1 hok2
                  go_wp2
                  go_meet
                  exact ⟨z3, by rw [HH.out]; exact HZ3.out.symm, by rw [e1.out], hQ7, hV7⟩
                · obtain ⟨hr3, hr4, hr1, g8, c8, rfl, hcell⟩ := hok1 rfl
                  have hrK : z1.r < K := by have := HB.out.1.1 hr3; have := HB.out.2.1; omega
                  clear hok1 hok2
                  have hge : ¬ ((K : Int) ≤ (z1.r : Int)) := by omega
                  have hcv : IntKind.i64.wrap (z1.r : Int) = z1.r := wrapH _ (by omega)
                  have hwr : IntKind.i64.wrap ((z1.r : Int) + 1) = (z3.r : Int) := by rw [wrapH _ (by omega)]; omega
                  clear hr1 hr3 hr4
                  go_wp2
                  go_meet
                  exact ⟨z3, by rw [HH.out]; exact HZ3.out.symm, rfl, hQ7, hV7⟩
              · have hdd : decide (L ≠ 1 ∧ L ≠ 3) = false := decide_eq_false hL0
                rw [hdd] at h99
                subst h99
                have HH := Lib.hid hdd
                clear hL0 hdd
                go_wp2
                go_meet
                exact ⟨z1, by rw [HH.out]; rfl, rfl, hQ, hV⟩
            case rest =>
              clear hQ hU hV hiv
              obtain ⟨z3, hz3, rfl, hQ8, hV8⟩ := hcut
              clear h99
              have hIn := HI2.out.1
              obtain ⟨t1, t2, -⟩ := gtake_eq (decide (L ≠ 1 ∧ L ≠ 3)) u z1
              rw [← hz3] at t1 t2
              have f1 := (hIn.vs v (by simp)).1
              have f2 := (hIn.vs v (by simp)).2
              have f3 := hIn.rq
              have f5 := hIn.qK
              have haa := hQ8.answerA v (by omega) (by omega) (by omega)
              have hIr : CI K M (q + 1) (gans (decide (L ≠ 2 ∧ L ≠ 3)) v z3) U' V' := by
                rw [hz3]
                exact HIR.out _ _ (fun h => by have e0 := hL3 h; subst e0; exact ⟨rfl, rfl⟩)
              clear hIn t1 t2 f1 f2 f3 f5 hz3 hL3
              have HF := Lib.hid hIr
              clear hIr
              go_upto_region 39 with fail
              go_cut [179] (fun v wx => v = .bool (decide (L ≠ 2 ∧ L ≠ 3)) ∧ wx = wc)
              case first =>
                clear haa hQ8 hV8
                by_cases h1 : L = 2
                · subst h1
                  go_wp2
                  go_meet
                  exact ⟨by simp, rfl⟩
                · have h1b : (L != 2) = true := by simp [h1]
                  by_cases h3 : L = 3
                  · subst h3
                    go_wp2
                    go_meet
                    exact ⟨by simp, rfl⟩
                  · have h3b : (L != 3) = true := by simp [h3]
                    go_wp2
                    go_meet
                    exact ⟨by simp [h1, h3], rfl⟩
              obtain ⟨h146, rfl⟩ := hcut
              go_wp2_with fail
              by_cases hL9 : L ≠ 2 ∧ L ≠ 3
              · have hdd : decide (L ≠ 2 ∧ L ≠ 3) = true := decide_eq_true hL9
                rw [hdd] at h146
                subst h146
                have HH := Lib.hid hdd
                clear hL9 hdd
                have c0 := hV8.cell 0 rfl
                have c1 := hV8.cell 1 rfl
                have c2 := hV8.cell 2 rfl
                have c3 := hV8.cell 3 rfl
                have c4 := hV8.cell 4 rfl
                have c5 := hV8.cell 5 rfl
                have c6 := hV8.cell 6 rfl
                have c7 := hV8.cell 7 rfl
                go_wp2_with fail
                refine haa.mono ?_
                rintro e w9 ⟨n9, rfl, hQ9, kp9⟩
                clear c0 c1 c2 c3 c4 c5 c6 c7 haa kp9 hQ8 hV8
                go_wp2
                exact ⟨⟨cans v z3, U', V', q + 1, by omega, rfl, rfl, hQ9, by have := HF.out; rw [HH.out] at this; exact this, by rw [HUV.out.1, HUV.out.2], by rw [HUV.out.1]; exact Nat.le_refl _, .inl HUV.out.1⟩, by simp [intOf]; omega⟩
              · have hdd : decide (L ≠ 2 ∧ L ≠ 3) = false := decide_eq_false hL9
                rw [hdd] at h146
                subst h146
                have HH := Lib.hid hdd
                clear hL9 hdd
                go_wp2
                exact ⟨⟨z3, U', V', q + 1, by omega, rfl, rfl, hQ8, by have := HF.out; rw [HH.out] at this; exact this, by rw [HUV.out.1, HUV.out.2], by rw [HUV.out.1]; exact Nat.le_refl _, .inl HUV.out.1⟩, by simp [intOf]; omega⟩
        · have hlt2 : ¬ (q : Int) < 900 := by omega
          have hq4 : q = 900 := by omega
          subst hq4
          obtain ⟨e1, e2, e3⟩ := cme_done hI.1 (hI.2.2 (by omega))
          have hPK : z.P = K := hI.1.PK
          have hs := hQ.ld.sent
          have hx := hQ.ld.nexts
          have hh := hQ.ld.hold
          have hbel := hQ.ld.bel
          rw [e3, e2, Nat.sub_self] at hs
          rw [hPK, e3, Nat.sub_self] at hx
          rw [e1]
          clear hI hQ hl1 hl2 hl3 e1 e2 e3 hPK
          go_wp2_with fail
          refine hh.mono ?_
          rintro e w5 ⟨rfl, rfl⟩
          go_wp2_with fail
          refine hs.mono ?_
          rintro e w6 ⟨rfl, rfl⟩
          go_wp2_with fail
          refine hh.mono ?_
          rintro e w7 ⟨rfl, rfl⟩
          go_wp2_with fail
          refine hx.mono ?_
          rintro e w8 ⟨rfl, rfl⟩
          go_wp2
          go_ret
          exact ⟨rfl, hbel⟩

set_option maxRecDepth 100000 in
theorem closes_long (n0 m1 m2 : Int) (a : Option Addr) (len cap : Nat) (d0 : Int) (w : World) (h : 60 < len) (hm : len ≤ 9223372036854775807) : Calls Try.prog 11 #[.int .u8 n0, .int .u8 m1, .int .u8 m2, .slice a len cap, .int .u8 d0] w fun e w' => e = .returned (.bool true) ∧ Below w.heap.size w w' := by
  have hd : (60 : Int) < (len : Int) := by omega
  go_enter Try.func11, Try.ntmps11
  go_wp2_with fail
  refine (awake12_any _).mono ?_
  rintro e w0 ⟨rfl, hB0⟩
  go_wp2_with fail
  refine (awake12_any _).mono ?_
  rintro e w1 ⟨rfl, hB1⟩
  go_wp2
  go_ret
  exact ⟨rfl, bthen hB0 hB1⟩
theorem cyclicloses_row (n0 m1 m2 : Int) (a : Option Addr) (len cap : Nat) (zs : List Int) (d0 : Int) (w : World) (hn : 0 ≤ n0 ∧ n0 ≤ 255) (hm1 : 0 ≤ m1 ∧ m1 ≤ 255) (hm2 : 0 ≤ m2 ∧ m2 ≤ 255) (hz : Came w .u8 a len zs) (hm : len ≤ maxLen) (hd0 : 0 ≤ d0 ∧ d0 ≤ 255) :
    Calls Try.prog 11 #[.int .u8 n0, .int .u8 m1, .int .u8 m2, .slice a len cap, .int .u8 d0] w fun e w' => e = .returned (.bool true) ∧ Below w.heap.size w w' := by
  by_cases h : len ≤ 60
  · exact closes_b n0 m1 m2 a len cap d0 zs w hz h hn hd0 hm1 hm2
  · exact closes_long n0 m1 m2 a len cap d0 w (by omega) (by unfold maxLen at hm; omega)
end Go.Proofs.Ytadheikcgdhcdaa
