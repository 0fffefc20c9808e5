/-
  Units that go and come, any ones, on a cyclic way: the walk.
-/
import Derived.Test.YtadheikcgdhcdaaCpP
import Derived.Test.YtadheikcgdhcdaaRq
namespace Go.Proofs.Ytadheikcgdhcdaa
open Go.RowKit Go.Sort
set_option linter.unusedVariables false
set_option linter.unusedSimpArgs false

theorem QW.setCell {W w : World} {b h s : Nat} {m : Int} {vL : Value} {st : CSt} {p : Addr} {cs : List Value} (k : QW W w b h s m vL st) (hB : Blk w p.block cs 69) (hr : W.heap.size ≤ p.block) (v : Value) : QW W (w.setCell p v) b h s m vL st :=
  ⟨k.cm.setCell hB (by decide) (by decide) (by decide) (by decide) hr v, k.sd.fr (Fr.set1 w p v) (fun e => hB.apart k.sd (by decide) e.symm), k.hs, k.by', k.cnt⟩
theorem put_cnt {m o : Int} {ss ns : List (List Int)} {n : Nat} (h : putCode m o ss ns n = 0) : (ss.length : Int) + ns.length < m := by
  unfold putCode at h
  split at h
  · omega
  · split at h
    · omega
    · split at h <;> omega
set_option maxRecDepth 100000 in
set_option maxHeartbeats 16000000 in
theorem cplays_main (m0 a0 o0 : Int) (a : Option Addr) (len cap : Nat) (w : World) (hz : Cacts w a len) (hm : len ≤ 80) (hm0 : 0 ≤ m0 ∧ m0 ≤ 255) (ha0 : 0 ≤ a0 ∧ a0 ≤ 255) (ho0 : 0 ≤ o0 ∧ o0 ≤ 255) :
    Calls Try.prog 13 #[.int .u8 m0, .int .u8 a0, .int .u8 o0, .slice a len cap] w fun e w' => e = .returned (.bool true) ∧ Below w.heap.size w w' := by
  have HZ := Lib.hid hz
  have hd : ¬ ((80 : Int) < (len : Int)) := by omega
  have hwm : IntKind.i64.wrap m0 = m0 := wrapH _ (by omega)
  have hwa : IntKind.i64.wrap a0 = a0 := wrapH _ (by omega)
  have hwo : IntKind.i64.wrap o0 = o0 := wrapH _ (by omega)
  obtain ⟨A, hA⟩ : ∃ A : Int, m0 % 20 = A := ⟨_, rfl⟩
  have hAt : m0.tmod 20 = A := by rw [Int.tmod_eq_emod_of_nonneg (by omega)]; exact hA
  obtain ⟨B, hB⟩ : ∃ B : Int, a0 % 10 = B := ⟨_, rfl⟩
  have hBt : a0.tmod 10 = B := by rw [Int.tmod_eq_emod_of_nonneg (by omega)]; exact hB
  obtain ⟨C, hC⟩ : ∃ C : Int, o0 % 60 = C := ⟨_, rfl⟩
  have hCt : o0.tmod 60 = C := by rw [Int.tmod_eq_emod_of_nonneg (by omega)]; exact hC
  obtain ⟨m, hmd⟩ : ∃ m : Int, 1 + A = m := ⟨_, rfl⟩
  obtain ⟨n1, hnd1⟩ : ∃ m : Int, 1 + B = m := ⟨_, rfl⟩
  obtain ⟨n2, hnd2⟩ : ∃ m : Int, 1 + C = m := ⟨_, rfl⟩
  have hA1 : IntKind.i64.wrap (1 + A) = m := by rw [wrapH _ (by omega)]; exact hmd
  have hB1 : IntKind.i64.wrap (1 + B) = n1 := by rw [wrapH _ (by omega)]; exact hnd1
  have hC1 : IntKind.i64.wrap (1 + C) = n2 := by rw [wrapH _ (by omega)]; exact hnd2
  have hmb : m ≤ 20 := by omega
  have hn1 : 1 ≤ n1 := by omega
  have hn2 : 1 ≤ n2 := by omega
  clear hz hA hB hC hmd hnd1 hnd2 hm0 ha0 ho0
  go_enter Try.func13, Try.ntmps13
  go_wp2_with fail
  refine (awake12_any _).mono ?_
  rintro e w0 ⟨rfl, hB0⟩
  go_wp2_with fail
  refine (CX.new m 5000 n1 n2 hn1 hn2 w0).mono ?_
  rintro e w2 ⟨b, h, rfl, hhh, hbb, hX, hB2⟩
  go_wp2_with fail
  refine (rside m n1 n2 w2).mono ?_
  rintro e w3 ⟨rfl, hB3⟩
  have hX1 := hX.below hB3
  have hbel1 := bthen (bthen hB0 hB2) hB3
  have hs0 := hB0.size
  obtain ⟨w4, hw4, hsd, hB4⟩ := side_fresh w3 (sdc (.slice none 0 0) 0 0 m 5000 (tV n1 n2 127 0 false false false))
  have hR0 := Blk.new w3 side0 51
  have hP : QW w w4 b h w3.heap.size m (.slice none 0 0) (cst0 n1 n2) :=
    ⟨⟨bthen hbel1 hB4, by omega, by omega, ⟨_, _, hX1.below hB4, fun q hq => (by rcases hq with e | e <;> cases e), fun g hg => (by cases hg)⟩, RR.nil _ _⟩, hsd, hbel1.size, fun x hx => by simp [cst0] at hx, by simp [cst0]⟩
  clear hX hX1 hbel1 hsd hB4 hB3 hB2 hB0 hs0 hhh hbb
  go_upto_region 8 with (refine wpList_side_store rfl (.tmp 13) (.tmp 60) rfl w3.heap.size (sdc (.slice none 0 0) 0 0 m 5000 (tV n1 n2 127 0 false false false)) side0 rfl rfl hR0 rfl rfl (sdc_one _ _ _ _ _ _ _ _) ?_)
  rw [← hw4]
  clear hR0 hw4
  generalize w3.heap.size = s at *
  go_wp2_with fail
  go_loopw [14] (fun i wr => ∃ (q : Nat) (vL : Value) (st : CSt), q ≤ len ∧ i = .int .i64 q ∧ QW w wr b h s m vL st) (fun i _ => len - (intOf i).toNat)
  case atStart => exact ⟨0, _, _, Nat.zero_le _, rfl, hP⟩
  case round =>
    clear hP
    obtain ⟨q, vL, st, hq, rfl, hP⟩ := hrel
    by_cases hlt : q < len
    · have hlt2 : (q : Int) < (len : Int) := by omega
      obtain ⟨x, k, y, u, v, rfl, hcs, hkb, hyb, huo, ho⟩ := HZ.out q hlt
      have hbel := hP.cm.bel
      have hcell : ∀ j z, ((.int .u8 k :: .int .u8 y :: UnI.cells u v : List Value))[j]? = some z → wr.cell? ((x.add (q * 10)).add j) = some z := fun j z hj => by
        have := hcs j z hj
        rw [← this]
        exact hbel.cell (World.block_lt_of_cell? _ _ this)
      have e0 : wr.cell? (x.add (q * 10)) = some (.int .u8 k) := by have := hcell 0 _ rfl; rw [Go.Deep.add_add, Nat.add_zero] at this; exact this
      have e1 : wr.cell? ⟨(x.add (q * 10)).block, (x.add (q * 10)).off + 1, none⟩ = some (.int .u8 y) := hcell 1 _ rfl
      have e2 : wr.cell? ⟨(x.add (q * 10)).block, (x.add (q * 10)).off + 2, none⟩ = some (.int .u8 u.bsn) := hcell 2 _ rfl
      have e3 : wr.cell? ⟨(x.add (q * 10)).block, (x.add (q * 10)).off + 3, none⟩ = some (.int .u8 u.fsn) := hcell 3 _ rfl
      have e4 : wr.cell? ⟨(x.add (q * 10)).block, (x.add (q * 10)).off + 4, none⟩ = some (.bool u.bib) := hcell 4 _ rfl
      have e5 : wr.cell? ⟨(x.add (q * 10)).block, (x.add (q * 10)).off + 5, none⟩ = some (.bool u.fib) := hcell 5 _ rfl
      have e6 : wr.cell? ⟨(x.add (q * 10)).block, (x.add (q * 10)).off + 6, none⟩ = some (.int .u8 u.kind) := hcell 6 _ rfl
      have e7 : wr.cell? ⟨(x.add (q * 10)).block, (x.add (q * 10)).off + 7, none⟩ = some (.int .u8 u.st) := hcell 7 _ rfl
      have e8 : wr.cell? ⟨(x.add (q * 10)).block, (x.add (q * 10)).off + 8, none⟩ = some (.bool u.wd) := hcell 8 _ rfl
      have e9 : wr.cell? ⟨(x.add (q * 10)).block, (x.add (q * 10)).off + 9, none⟩ = some (v) := hcell 9 _ rfl
      have hoW := ho
      obtain ⟨pa, pc, rfl, -⟩ := ho
      obtain ⟨pl, hpl⟩ : ∃ pl, u.p.length = pl := ⟨_, rfl⟩
      rw [hpl] at e9 hoW
      have HPL := Lib.hid hpl
      obtain ⟨bsn, fsn, bib, fib, kind, stt, wd, xs⟩ := u
      dsimp only at e2 e3 e4 e5 e6 e7 e8 e9 HPL hoW hpl
      have hU := Blk.new wr [.int .u8 k, .int .u8 y, .int .u8 bsn, .int .u8 fsn, .bool bib, .bool fib, .int .u8 kind, .int .u8 stt, .bool wd, .slice pa pl pc] 83
      have hba : Below wr.heap.size wr (wr.alloc (.cells #[.int .u8 k, .int .u8 y, .int .u8 bsn, .int .u8 fsn, .bool bib, .bool fib, .int .u8 kind, .int .u8 stt, .bool wd, .slice pa pl pc] 83)) := (Below.refl _ _).alloc (Nat.le_refl _) _
      have hP1 := hP.below hba
      clear hP hba hpl hcs hcell
      go_upto_region 12 with fail
      have hbl := hP1.cm.bel
      generalize wr.alloc (.cells #[.int .u8 k, .int .u8 y, .int .u8 bsn, .int .u8 fsn, .bool bib, .bool fib, .int .u8 kind, .int .u8 stt, .bool wd, .slice pa pl pc] 83) = X at *
      generalize wr.heap.size = ba at *
      clear e0 e1 e2 e3 e4 e5 e6 e7 e8 e9 hbel
      have u0 := hU.cell 0 rfl
      have u9 := hU.cell 9 rfl
      by_cases hp3 : 100 < pl
      · have hp3i : (100 : Int) < (pl : Int) := by omega
        go_wp2
        go_ret
        exact ⟨rfl, hbl⟩
      · have hp3i : ¬ (100 : Int) < (pl : Int) := by omega
        obtain ⟨kk, hkk⟩ : ∃ kk : Int, k % 10 = kk := ⟨_, rfl⟩
        have hkt : k.tmod 10 = kk := by rw [Int.tmod_eq_emod_of_nonneg (by omega)]; exact hkk
        have hku : IntKind.u8.wrap kk = kk := by simp [IntKind.wrap, IntKind.bits, IntKind.signed]; omega
        have hkb2 : 0 ≤ kk ∧ kk ≤ 9 := by omega
        clear hkk
        go_upto_block 2 with fail
        clear u0 u9 hkt hku
        go_cut [16] (fun v wx => ∃ (vL' : Value) (st' : CSt), v = .int .u8 kk ∧ QW w wx b h s m vL' st')
        case first =>
          by_cases c3 : kk < 3
          · -- one is put
            as_aux_lemma =>
            have u1 := hU.cell 1 rfl
            obtain ⟨R, hR⟩ : ∃ R : Int, y % 9 = R := ⟨_, rfl⟩
            have hRt : y.tmod 9 = R := by rw [Int.tmod_eq_emod_of_nonneg (by omega)]; exact hR
            obtain ⟨K, hK⟩ : ∃ K : Nat, (K : Int) = 3 + R := ⟨(3 + R).toNat, by omega⟩
            have hKw : IntKind.i64.wrap (3 + R) = (K : Int) := by rw [wrapH _ (by omega)]; omega
            have hwy : IntKind.i64.wrap y = y := wrapH _ (by omega)
            have hwq : IntKind.u8.wrap (q : Int) = (q : Int) := by simp [IntKind.wrap, IntKind.bits, IntKind.signed]; omega
            have hK0 : (0 : Int) < (K : Int) := by omega
            have hK1 : 0 < K := by omega
            have hK2 : K ≤ 1000 := by omega
            have hmk := make_octs K hK2 X
            have hG := made_blk X K
            have hbG : Below X.heap.size X (X.alloc (.cells (madeCells #[Value.int .u8 0] K) 5)) := (Below.refl _ _).alloc (Nat.le_refl _) _
            have g0 := hG.cell 0 (made_zero K 0 hK1)
            have g1 := hG.frozen 0
            clear hR hK
            go_upto_region 33 with fail
            have hG2 : Blk (X.alloc (.cells ((madeCells #[Value.int .u8 0] K).setIfInBounds 0 (.int .u8 (q : Int))) 5)) X.heap.size ((madeCells #[Value.int .u8 0] K).toList.set 0 (.int .u8 (q : Int))) 5 := by have := Blk.new X ((madeCells #[Value.int .u8 0] K).toList.set 0 (.int .u8 (q : Int))) 5; rw [← Array.toList_setIfInBounds, Array.toArray_toList] at this; rw [← Array.toList_setIfInBounds]; exact this
            have hb2 : Below X.heap.size X (X.alloc (.cells ((madeCells #[Value.int .u8 0] K).setIfInBounds 0 (.int .u8 (q : Int))) 5)) := (Below.refl _ _).alloc (Nat.le_refl _) _
            have hP2 := hP1.below hb2
            have hxl : ((q : Int) :: List.replicate (K - 1) 0).length = K := by simp; omega
            have hbyx : ∀ z ∈ ((q : Int) :: List.replicate (K - 1) 0), 0 ≤ z ∧ z < 256 := by
              intro z hz
              rcases List.mem_cons.1 hz with rfl | e
              · omega
              · rw [(List.mem_replicate.1 e).2]; omega
            have hOc := Oct5.blk (c := K) hG2 (made_set K hK1 q)
            clear hG hbG g0 g1 hmk hG2 hb2 u1 hU hP1 hRt hKw hwy hwq
            generalize X.alloc (.cells ((madeCells #[Value.int .u8 0] K).setIfInBounds 0 (.int .u8 (q : Int))) 5) = X2 at *
            generalize X.heap.size = bg at *
            obtain ⟨XS, hXS⟩ : ∃ XS : List Int, ((q : Int) :: List.replicate (K - 1) 0) = XS := ⟨_, rfl⟩
            rw [hXS] at hOc hbyx hxl
            clear hXS
            rw [hxl] at hOc
            have hrp := hP2.cm.rput (.slice (some ⟨bg, 0, none⟩) K K) XS hOc (by omega)
            rw [hxl] at hrp
            have hby' : ∀ x ∈ st.ss ++ (if putCode m 5000 st.ss st.ns K = 0 then st.ns ++ [XS] else st.ns), ∀ z ∈ x, 0 ≤ z ∧ z < 256 := by
              intro x hx
              split at hx
              · rw [← List.append_assoc] at hx
                rcases List.mem_append.1 hx with e | e
                · exact hP2.by' x e
                · rw [List.mem_singleton.1 e]; exact hbyx
              · exact hP2.by' x hx
            have hcn' : st.ss.length + (if putCode m 5000 st.ss st.ns K = 0 then st.ns ++ [XS] else st.ns).length ≤ 20 := by
              have := hP2.cnt
              split
              · rename_i hc
                have := put_cnt hc
                simp; omega
              · exact this
            obtain ⟨ns', hns'⟩ : ∃ ns', (if putCode m 5000 st.ss st.ns K = 0 then st.ns ++ [XS] else st.ns) = ns' := ⟨_, rfl⟩
            obtain ⟨cd, hcd⟩ : ∃ cd, putCode m 5000 st.ss st.ns K = cd := ⟨_, rfl⟩
            rw [hns'] at hby' hcn'
            rw [hns', hcd] at hrp
            have HPC := Lib.hid (And.intro hns' hcd)
            clear hns' hcd
            go_wp2_with (refine wpList_side_load rfl (.tmp 13) rfl s rfl _ hP2.sd rfl ?_)
            refine hrp.mono ?_
            rintro e w5 ⟨vL', rfl, hC5, hb5⟩
            have hsd5 := hP2.sd.below hb5
            have hOc5 := (Oct5.to hOc (K5.refl _)).below hb5
            obtain ⟨X6, hX6, hB18, hb6⟩ := side_fresh w5 (sdS vL' m 5000 st)
            have hR0 := Blk.new w5 side0 51
            have hC6 := hC5.below hb6
            have hsd6 := hsd5.below hb6
            have hput := hC6.put (.slice (some ⟨bg, 0, none⟩) K K) XS (hOc5.below hb6) (by omega)
            rw [hxl, HPC.out.1, HPC.out.2] at hput
            have hone := sdS_one hC5 m 5000 st
            have hssz := hP2.hs
            have hho := hC6.hold
            clear hrp hOc hOc5 hC5 hsd5 hb5 hb6 hP2
            go_upto_region 34 with (refine wpList_side_store rfl (.tmp 18) (.tmp 195) rfl w5.heap.size (sdS vL' m 5000 st) side0 rfl rfl hR0 rfl rfl hone ?_)
            rw [← hX6]
            clear hX6 hR0
            generalize w5.heap.size = b18 at *
            go_wp2_with fail
            refine hho.mono ?_
            rintro e w6 ⟨rfl, rfl⟩
            go_wp2_with fail
            refine hput.mono ?_
            rintro e w7 ⟨rfl, hC7, hK7⟩
            have hB18' := hK7.2 _ _ _ (by decide) (by decide) (by decide) hB18
            have hsd7 := hK7.2 _ _ _ (by decide) (by decide) (by decide) hsd6
            clear hho hput hB18 hsd6 hC6 hK7
            go_wp2_with (first | (refine wpList_side_load rfl (.tmp 18) rfl b18 rfl _ hB18' rfl ?_) | (refine wpList_side_store rfl (.tmp 13) (.tmp 203) rfl s (sdS vL' m 5000 st) _ rfl rfl hsd7 rfl rfl hone ?_))
            go_meet
            exact ⟨vL', _, rfl, QW.store hC7 rfl hsd7 hssz hby' hcn' rfl⟩
          · by_cases c7 : kk < 7
            · -- the next unit goes
              as_aux_lemma =>
              obtain ⟨st', F, Kd, XS, hL, hXm, href, hmod⟩ := next_cases st m 5000 (by have := hP1.cnt; omega)
              have hr55 := rnext55 href hP1.cm
              have hby : ∀ z ∈ XS, 0 ≤ z ∧ z < 256 := by
                rcases hXm with rfl | e
                · simp
                · exact hP1.by' _ e
              have hby' : ∀ x ∈ st'.ss ++ st'.ns, ∀ z ∈ x, 0 ≤ z ∧ z < 256 := by rw [hL]; exact hP1.by'
              have hcn' : st'.ss.length + st'.ns.length ≤ 20 := by rw [← List.length_append, hL, List.length_append]; exact hP1.cnt
              have HL := Lib.hid hL
              clear href hXm hL
              go_wp2_with (refine wpList_side_load rfl (.tmp 13) rfl s rfl _ hP1.sd rfl ?_)
              refine hr55.mono ?_
              rintro e w5 ⟨v5, rfl, ho5, hb5⟩
              obtain ⟨X6, hX6, hB20, hB21, hb6, hR0, hU0⟩ := two_boxes w5 (sdS vL m 5000 st') (ucs st.last F true true Kd v5)
              have hC6 := (hP1.cm.below hb5).below hb6
              have hsd6 := (hP1.sd.below hb5).below hb6
              have ho6 := Oct5.kp ho5 (K5.below hb6)
              have hone := sdS_one hP1.cm m 5000 st'
              have huo := ucs_oneV st.last F true true Kd ho5
              have hssz := hP1.hs
              clear hr55 hU hP1
              go_upto_region 39 with (first | (refine wpList_side_store rfl (.tmp 20) (.tmp 210) rfl w5.heap.size (sdS vL m 5000 st') side0 rfl rfl hR0 rfl rfl hone ?_) | (refine wpList_unit_store rfl (.tmp 21) (.tmp 211) rfl (w5.heap.size + 1) (ucs st.last F true true Kd v5) unit0 rfl rfl hU0 rfl rfl huo ?_))
              rw [← hX6]
              clear hX6 hR0 hU0 hb6 ho5 hb5
              generalize w5.heap.size = b20 at *
              have hd1 : Below X6.heap.size X6 (X6.drewN 1) := below_drewN (Below.refl _ _) 1
              have hm48 := hmod w (X6.drewN 1) b h vL _ (hC6.below hd1)
              have h0 := hB21.cell 0 rfl
              have h1 := hB21.cell 1 rfl
              have h2 := hB21.cell 2 rfl
              have h3 := hB21.cell 3 rfl
              have h4 := hB21.cell 4 rfl
              have h5 := hB21.cell 5 rfl
              have h6 := hB21.cell 6 rfl
              have h7 := hB21.cell 7 rfl
              have HB20 := Lib.hid (hB20.below hd1)
              have HB21 := Lib.hid (hB21.below hd1)
              have HSD := Lib.hid (hsd6.below hd1)
              have HO6 := Lib.hid (Oct5.kp ho6 (K5.below hd1))
              have HBY := Lib.hid hby
              clear hmod hB20 hB21 hsd6 ho6 hC6 hd1 hby
              dsimp only [Act.put]
              go_cut [216] (fun v wx => v = .bool false ∧ CM w wx b h m 5000 vL (st.ss ++ st.ns) st' ∧ Blk wx b20 (sdS vL m 5000 st') 51 ∧ Blk wx s (sdS vL m 5000 st) 51)
              case first =>
                go_region_with (first | (go_at_call 48; refine hm48.mono ?_; rintro e w7 ⟨v7, rfl, hC7, hK7, ho7⟩; have hB7 := hK7.2 _ _ _ (by decide) (by decide) (by decide) HB21.out; have f0 := hB7.cell 0 rfl; have f1 := hB7.cell 1 rfl; have f2 := hB7.cell 2 rfl; have f3 := hB7.cell 3 rfl; have f4 := hB7.cell 4 rfl; have f5 := hB7.cell 5 rfl; have f6 := hB7.cell 6 rfl; have f7 := hB7.cell 7 rfl; have h56 := same_true st.last F true true Kd 0 false v7 v5 XS w7 ho7 (Oct5.to HO6.out hK7.k5) HBY.out) | (go_at_call 56; refine h56.mono ?_; rintro e w8 ⟨rfl, hb8⟩))
                all_goals go_wp2
                all_goals go_meet
                all_goals exact ⟨by simp, hC7.below hb8, (hK7.2 _ _ _ (by decide) (by decide) (by decide) HB20.out).below hb8, (hK7.2 _ _ _ (by decide) (by decide) (by decide) HSD.out).below hb8⟩
              obtain ⟨rfl, hC9, hB9, hsd9⟩ := hcut
              clear hm48 h0 h1 h2 h3 h4 h5 h6 h7
              go_wp2_with (first | (refine wpList_side_load rfl (.tmp 20) rfl b20 rfl _ hB9 rfl ?_) | (refine wpList_side_store rfl (.tmp 13) (.tmp 217) rfl s (sdS vL m 5000 st') _ rfl rfl hsd9 rfl rfl hone ?_))
              go_meet
              exact ⟨vL, st', rfl, QW.store hC9 HL.out.symm hsd9 hssz hby' hcn' rfl⟩
            · -- one comes
              as_aux_lemma =>
              have hbx : 0 ≤ bsn ∧ bsn ≤ 255 := huo.bsn
              have hfx : 0 ≤ fsn ∧ fsn ≤ 255 := huo.fsn
              have hkx : 0 ≤ kind ∧ kind ≤ 255 := huo.kind
              have hby : ∀ z ∈ xs, 0 ≤ z ∧ z < 256 := huo.p
              have u1 := hU.cell 1 rfl
              have u2 := hU.cell 2 rfl
              have u3 := hU.cell 3 rfl
              have u4 := hU.cell 4 rfl
              have u5 := hU.cell 5 rfl
              have u6 := hU.cell 6 rfl
              have u7 := hU.cell 7 rfl
              have u8 := hU.cell 8 rfl
              have u9 := hU.cell 9 rfl
              obtain ⟨kd, hkd⟩ : ∃ kd : Int, kind % 3 = kd := ⟨_, rfl⟩
              have hkdt : kind.tmod 3 = kd := by rw [Int.tmod_eq_emod_of_nonneg (by omega)]; exact hkd
              have hkdb : 0 ≤ kd ∧ kd ≤ 2 := by omega
              have hkdw : IntKind.u8.wrap kd = kd := by simp [IntKind.wrap, IntKind.bits, IntKind.signed]; omega
              clear hkd
              go_upto_region 17 with fail
              clear u2 u3 u4 u5 u6 u7 u8 u9 hkdw hkdt
              have hU2 := Blk.new X [.int .u8 bsn, .int .u8 fsn, .bool bib, .bool fib, .int .u8 kd, .int .u8 stt, .bool wd, .slice pa pl pc] 69
              have hb2 : Below X.heap.size X (X.alloc (.cells #[.int .u8 bsn, .int .u8 fsn, .bool bib, .bool fib, .int .u8 kd, .int .u8 stt, .bool wd, .slice pa pl pc] 69)) := (Below.refl _ _).alloc (Nat.le_refl _) _
              have hP2 := hP1.below hb2
              have a1 := (hU.below hb2).cell 1 rfl
              have hbu := hP1.cm.bel.size
              clear hb2 hU u1 hP1
              generalize X.alloc (.cells #[.int .u8 bsn, .int .u8 fsn, .bool bib, .bool fib, .int .u8 kd, .int .u8 stt, .bool wd, .slice pa pl pc] 69) = X2 at *
              generalize X.heap.size = bu at *
              have hwy0 : IntKind.i64.wrap y = y := wrapH _ (by omega)
              go_upto_if 87 with fail
              go_cut [22] (fun v wx => v = .pointer (some ⟨bu, 0, none⟩) ∧ ∃ (bsn' fsn' : Int), (0 ≤ bsn' ∧ bsn' ≤ 255) ∧ (0 ≤ fsn' ∧ fsn' ≤ 255) ∧ QW w wx b h s m vL st ∧ Blk wx bu [.int .u8 bsn', .int .u8 fsn', .bool bib, .bool fib, .int .u8 kd, .int .u8 stt, .bool wd, .slice pa pl pc] 69)
              case first =>
                by_cases hy : 40 ≤ y
                · have hB := hP2.cm.bounds
                  have hBf := hB.f
                  have hBl := hB.last
                  have hBw := hB.win
                  have s1 : X2.cell? ⟨s, 1, none⟩ = some (.int .i64 (st.ss.length : Int)) := hP2.sd.cell 1 rfl
                  have s2 : X2.cell? ⟨s, 2, none⟩ = some (.int .i64 st.f) := hP2.sd.cell 2 rfl
                  have s10 : X2.cell? ⟨s, 10, none⟩ = some (.int .i64 st.last) := hP2.sd.cell 10 rfl
                  obtain ⟨LN, hLN⟩ : ∃ LN : Int, (st.ss.length : Int) = LN := ⟨_, rfl⟩
                  have hLNb : 0 ≤ LN ∧ LN ≤ 127 := by omega
                  rw [hLN] at s1
                  obtain ⟨FN, hFN⟩ : ∃ FN : Int, st.f = FN := ⟨_, rfl⟩
                  rw [hFN] at s2 hBf
                  obtain ⟨AN, hAN⟩ : ∃ AN : Int, st.last = AN := ⟨_, rfl⟩
                  rw [hAN] at s10 hBl
                  obtain ⟨L1, hL1⟩ : ∃ L1 : Int, LN + 1 = L1 := ⟨_, rfl⟩
                  have hw1 : IntKind.i64.wrap (LN + 1) = L1 := by rw [wrapH _ (by omega)]; exact hL1
                  have hL1b : 1 ≤ L1 ∧ L1 ≤ 128 := by omega
                  have hne : (L1 = 0) = False := by simp; omega
                  obtain ⟨F1, hF1⟩ : ∃ F1 : Int, FN + 127 = F1 := ⟨_, rfl⟩
                  have hw2 : IntKind.i64.wrap (FN + 127) = F1 := by rw [wrapH _ (by omega)]; exact hF1
                  obtain ⟨R1, hR1⟩ : ∃ R1 : Int, y % L1 = R1 := ⟨_, rfl⟩
                  have hw3 : y.tmod L1 = R1 := by rw [Int.tmod_eq_emod_of_nonneg (by omega)]; exact hR1
                  have hR1b : 0 ≤ R1 ∧ R1 < L1 := by rw [← hR1]; exact ⟨Int.emod_nonneg _ (by omega), Int.emod_lt_of_pos _ (by omega)⟩
                  obtain ⟨S1, hS1⟩ : ∃ S1 : Int, F1 + R1 = S1 := ⟨_, rfl⟩
                  have hw4 : IntKind.i64.wrap (F1 + R1) = S1 := by rw [wrapH _ (by omega)]; exact hS1
                  obtain ⟨B1, hB1⟩ : ∃ B1 : Int, S1 % 128 = B1 := ⟨_, rfl⟩
                  have hw5 : S1.tmod 128 = B1 := by rw [Int.tmod_eq_emod_of_nonneg (by omega)]; exact hB1
                  have hB1b : 0 ≤ B1 ∧ B1 ≤ 127 := by omega
                  have hw6 : IntKind.u8.wrap B1 = B1 := by simp [IntKind.wrap, IntKind.bits, IntKind.signed]; omega
                  have hw7 : IntKind.i64.wrap y = y := wrapH _ (by omega)
                  obtain ⟨D1, hD1⟩ : ∃ D1 : Int, y / 8 = D1 := ⟨_, rfl⟩
                  have hw8 : y.tdiv 8 = D1 := by rw [Int.tdiv_eq_ediv_of_nonneg (by omega)]; exact hD1
                  have hD1b : 0 ≤ D1 ∧ D1 ≤ 31 := by omega
                  have hw9 : IntKind.u8.wrap D1 = D1 := by simp [IntKind.wrap, IntKind.bits, IntKind.signed]; omega
                  have hw10 : IntKind.i64.wrap D1 = D1 := wrapH _ (by omega)
                  obtain ⟨E1, hE1⟩ : ∃ E1 : Int, D1 % 3 = E1 := ⟨_, rfl⟩
                  have hw11 : D1.tmod 3 = E1 := by rw [Int.tmod_eq_emod_of_nonneg (by omega)]; exact hE1
                  obtain ⟨T1, hT1⟩ : ∃ T1 : Int, AN + E1 = T1 := ⟨_, rfl⟩
                  have hw12 : IntKind.i64.wrap (AN + E1) = T1 := by rw [wrapH _ (by omega)]; exact hT1
                  obtain ⟨C1, hC1'⟩ : ∃ C1 : Int, T1 % 128 = C1 := ⟨_, rfl⟩
                  have hw13 : T1.tmod 128 = C1 := by rw [Int.tmod_eq_emod_of_nonneg (by omega)]; exact hC1'
                  have hC1b : 0 ≤ C1 ∧ C1 ≤ 127 := by omega
                  have hw14 : IntKind.u8.wrap C1 = C1 := by simp [IntKind.wrap, IntKind.bits, IntKind.signed]; omega
                  have z0 := hU2.cell 0 rfl
                  have z1 := hU2.cell 1 rfl
                  have y0 := hU2.frozen 0
                  have y1 := hU2.frozen 1
                  have HP2 := Lib.hid hP2
                  have HU2 := Lib.hid hU2
                  have HBB := Lib.hid (And.intro hB1b hC1b)
                  clear hB hLN hFN hAN hL1 hF1 hR1 hS1 hB1 hD1 hE1 hT1 hC1' hP2 hU2 hBf hBl hBw hLNb hL1b hR1b hB1b hD1b hC1b hbx hfx hkx
                  go_upto_region 18 with fail
                  go_region
                  all_goals go_wp2
                  all_goals go_meet
                  all_goals exact ⟨rfl, B1, C1, ⟨HBB.out.1.1, by have := HBB.out.1.2; omega⟩, ⟨HBB.out.2.1, by have := HBB.out.2.2; omega⟩, ((HP2.out.setCell (p := ⟨bu, 0, none⟩) HU2.out hbu (.int .u8 B1)).setCell (p := ⟨bu, 1, none⟩) (HU2.out.set 0 (.int .u8 B1)) hbu (.int .u8 C1)).below ⟨rfl, rfl, rfl, Nat.le_refl _, fun _ _ => rfl⟩, Blk.drew ((HU2.out.set 0 (.int .u8 B1)).set 1 (.int .u8 C1))⟩
                · have hy2 : ¬ (40 : Int) ≤ y := hy
                  go_wp2
                  go_meet
                  exact ⟨rfl, bsn, fsn, hbx, hfx, hP2, hU2⟩
              obtain ⟨rfl, bsn', fsn', hb', hf', hP3, hU3⟩ := hcut
              clear hP2 hU2 a1 hwy0 hbx hfx hkx
              have hssz := hP3.hs
              have hxl4 : xs.length ≤ 400 := by have := HPL.out; omega
              obtain ⟨st1, kA, fA, hsub, hcn1, hans, hmodA⟩ := answer_cases st m 5000 hP3.cm.bounds bsn' hb'
              have hby1 : ∀ x ∈ st1.ss ++ st1.ns, ∀ z ∈ x, 0 ≤ z ∧ z < 256 := fun x hx => hP3.by' x (hsub x hx)
              have hcn1' : st1.ss.length + st1.ns.length ≤ 20 := Nat.le_trans hcn1 hP3.cnt
              have h57 := hans w wc b h vL [.int .u8 bsn', .int .u8 fsn', .bool bib, .bool fib, .int .u8 kd, .int .u8 stt, .bool wd, .slice pa pl pc] hP3.cm rfl
              clear hsub hcn1 hans
              go_wp2_with (first | (refine wpList_side_load rfl (.tmp 13) rfl s rfl _ hP3.sd rfl ?_) | (refine wpList_unit_load rfl (.tmp 22) rfl bu rfl _ hU3 rfl ?_))
              refine h57.mono ?_
              rintro e w5 ⟨vL', rfl, hC5, hb5⟩
              obtain ⟨X6, hX6, hB23, hb6⟩ := side_fresh w5 (sdS vL' m 5000 st1)
              have hR0 := Blk.new w5 side0 51
              have hC6 := hC5.below hb6
              have hsd5 := hP3.sd.below hb5
              have hsd6 := hsd5.below hb6
              have hU6 := (hU3.below hb5).below hb6
              have hone := sdS_one hC5 m 5000 st1
              have h50 := hmodA w X6 b h vL' _ fsn' kd stt bib fib wd (.slice pa pl pc) rfl hC6
              have hsne : s ≠ w5.heap.size := by have := hsd5.lt; omega
              have hb23 : w.heap.size ≤ w5.heap.size := hC5.bel.size
              clear h57 hmodA hP3 hU3 hC5 hsd5 hb5 hb6
              go_upto_region 21 with (refine wpList_side_store rfl (.tmp 23) (.tmp 117) rfl w5.heap.size (sdS vL' m 5000 st1) side0 rfl rfl hR0 rfl rfl hone ?_)
              rw [← hX6]
              clear hX6 hR0
              generalize w5.heap.size = b23 at *
              go_wp2_with (refine wpList_unit_load rfl (.tmp 22) rfl bu rfl _ hU6 rfl ?_)
              refine h50.mono ?_
              rintro e w7 ⟨rfl, hC7, hK7⟩
              have hB7 := hK7.2 _ _ _ (by decide) (by decide) (by decide) hB23
              have hsd7 := hK7.2 _ _ _ (by decide) (by decide) (by decide) hsd6
              have hU7 := hK7.2 _ _ _ (by decide) (by decide) (by decide) hU6
              have hP8 : QW w (w7.setRow s (sdS vL' m 5000 st1).toArray) b h s m vL' st1 := QW.store hC7 rfl hsd7 hssz hby1 hcn1' rfl
              have hU8 := hU7.fr (Fr.row1 w7 s (sdS vL' m 5000 st1).toArray) (fun e => hU7.apart hsd7 (by decide) e)
              have hB8 := hB7.fr (Fr.row1 w7 s (sdS vL' m 5000 st1).toArray) (fun e => hsne e.symm)
              clear h50 hC6 hB23 hsd6 hU6 hC7 hK7 hU7
              go_upto_region 25 with (first | (refine wpList_side_load rfl (.tmp 23) rfl b23 rfl _ hB7 rfl ?_) | (refine wpList_side_store rfl (.tmp 13) (.tmp 134) rfl s (sdS vL' m 5000 st1) _ rfl rfl hsd7 rfl rfl hone ?_))
              clear hB7 hsd7
              generalize w7.setRow s (sdS vL' m 5000 st1).toArray = X8 at *
              obtain ⟨st2, ok, e1, e2, htk, hmodT⟩ := take_cases st1 m 5000 hP8.cm.bounds fsn' kd hf'
              have h58 := htk w X8 b h vL' _ [.int .u8 bsn', .int .u8 fsn', .bool bib, .bool fib, .int .u8 kd, .int .u8 stt, .bool wd, .slice pa pl pc] hP8.cm rfl rfl
              have E12 := Lib.hid (And.intro e1 e2)
              clear e1 e2 htk
              go_wp2_with (first | (refine wpList_side_load rfl (.tmp 13) rfl s rfl _ hP8.sd rfl ?_) | (refine wpList_unit_load rfl (.tmp 22) rfl bu rfl _ hU8 rfl ?_))
              refine h58.mono ?_
              rintro e w9 ⟨rfl, hb9⟩
              have hP9 := hP8.below hb9
              have hU9 := hU8.below hb9
              have hB9 := hB8.below hb9
              have hone2 := sdS_one hP9.cm m 5000 st2
              have hCa := hP9.cm.setRow hB9 (by decide) (by decide) (by decide) (by decide) hb23 (sdS vL' m 5000 st2).toArray
              have hsda := hP9.sd.fr (Fr.row1 w9 b23 (sdS vL' m 5000 st2).toArray) (fun e => hsne e)
              have hUa := hU9.fr (Fr.row1 w9 b23 (sdS vL' m 5000 st2).toArray) (fun e => hU9.apart hB9 (by decide) e)
              have hBa := Blk.row hB9 (sdS vL' m 5000 st2)
              clear h58 hP8 hU8 hB8 hP9 hU9 hb9
              go_upto_region 26 with (refine wpList_side_store rfl (.tmp 23) (.tmp 139) rfl b23 (sdS vL' m 5000 st2) _ rfl rfl hB9 rfl rfl hone2 ?_)
              clear hB9
              generalize w9.setRow b23 (sdS vL' m 5000 st2).toArray = Xa at *
              have h52 := hmodT w Xa b h vL' _ bsn' stt bib fib wd (.slice pa pl pc) xs hoW hxl4 hCa
              clear hmodT hCa
              go_wp2_with (refine wpList_unit_load rfl (.tmp 22) rfl bu rfl _ hUa rfl ?_)
              refine h52.mono ?_
              rintro e wb ⟨p, rfl, hop, hCb, hKb⟩
              have hUb := hKb.2 _ _ _ (by decide) (by decide) (by decide) hUa
              have hsdb := hKb.2 _ _ _ (by decide) (by decide) (by decide) hsda
              have hBb := hKb.2 _ _ _ (by decide) (by decide) (by decide) hBa
              have v7 := hUb.cell 7 rfl
              have t2 := (hoW.below hCb.bel).str hby
              have hPe : QW w (wb.setRow s (sdS vL' m 5000 st2).toArray) b h s m vL' st2 := QW.store hCb (by rw [E12.out.1, E12.out.2]) hsdb hssz (by rw [E12.out.1, E12.out.2]; exact hby1) (by rw [E12.out.1, E12.out.2]; exact hcn1') rfl
              clear h52 hUa hsda hBa hKb hCb
              cases ok with
              | true =>
                rw [if_pos rfl] at hop
                have t1 := hop.str hby
                obtain ⟨ap, cp, rfl, -⟩ := hop
                go_wp2_with (first | (refine wpList_side_load rfl (.tmp 23) rfl b23 rfl _ hBb rfl ?_) | (refine wpList_side_store rfl (.tmp 13) (.tmp 177) rfl s (sdS vL' m 5000 st2) _ rfl rfl hsdb rfl rfl hone2 ?_))
                go_meet
                exact ⟨vL', st2, rfl, hPe⟩
              | false =>
                rw [if_neg (by decide)] at hop
                obtain ⟨ap, cp, rfl, -⟩ := hop
                go_wp2_with (first | (refine wpList_side_load rfl (.tmp 23) rfl b23 rfl _ hBb rfl ?_) | (refine wpList_side_store rfl (.tmp 13) (.tmp 177) rfl s (sdS vL' m 5000 st2) _ rfl rfl hsdb rfl rfl hone2 ?_))
                go_meet
                exact ⟨vL', st2, rfl, hPe⟩
        case rest =>
          as_aux_lemma =>
          obtain ⟨vL', st', rfl, hP9⟩ := hcut
          have hwq : IntKind.i64.wrap ((q : Int) + 1) = (q : Int) + 1 := wrapH _ (by omega)
          clear hU hP1
          have hB := hP9.cm.bounds
          have hwl : IntKind.i64.wrap st'.last = st'.last := by have := hB.last; exact wrapH _ (by omega)
          obtain ⟨F, hF⟩ : ∃ F : Int, (st'.f + (st'.ss.length : Int) - 1) % 128 = F := ⟨_, rfl⟩
          have kg := fun d os => hP9.cm.below (below_regrown wc d os)
          have c59 := fun d os => rg_eq (kg d os).taken
          have c47 := fun d os => rg_eq (kg d os).hold
          have c24 := fun d os => rg_eq (kg d os).sent
          have c49 := fun d os => rg_eq (kg d os).resends
          have c60 := fun d os => rg_below (kg d os).fill
          have c61 := fun d os => rg_below ((kg d os).rfill (List.length_append))
          have c56 : ∀ d os, Calls Try.prog 56 #[.agg (ucs st'.last F true true 0 (.slice none 0 0)).toArray, .agg (ucs st'.last F true true 0 (.slice none 0 0)).toArray] (grow (redrawn wc d) os) fun e w'' => e = .returned (.bool true) ∧ ∃ p : Regrown, w'' = grow (redrawn wc p.d) p.os := fun d os => rg_below (same_true st'.last F true true 0 0 false (.slice none 0 0) (.slice none 0 0) [] (grow (redrawn wc d) os) ⟨none, 0, rfl, fun j u hj => by simp at hj⟩ ⟨none, 0, rfl, fun j u hj => by simp at hj⟩ (by simp))
          rw [hF] at c60 c61
          have s1 := cell_regrown (show wc.cell? ⟨s, 1, none⟩ = some (.int .i64 (st'.ss.length : Int)) from hP9.sd.cell 1 rfl)
          have s10 := cell_regrown (show wc.cell? ⟨s, 10, none⟩ = some (.int .i64 st'.last) from hP9.sd.cell 10 rfl)
          have s13 := cell_regrown (show wc.cell? ⟨s, 13, none⟩ = some (.bool st'.force) from hP9.sd.cell 13 rfl)
          have hBq := blk_regrown hP9.sd
          have HP := Lib.hid hP9
          obtain ⟨LS, hLS⟩ : ∃ x : Int, st'.last = x := ⟨_, rfl⟩
          obtain ⟨FS, hFS⟩ : ∃ x : Bool, st'.force = x := ⟨_, rfl⟩
          rw [hLS] at c59 c60 c61 c56 s10 hwl
          rw [hFS] at c49 s13
          clear hF kg hP9 hB hLS hFS
          go_upto_region 42 with fail
          refine wp_region_quiet_below (by kernel_rfl) (by kernel_rfl) (WQ.out ?_)
          repeat (first | (refine WQ.load (.tmp 13) (by rfl) (by rfl) s (by rfl) _ hBq (by rfl) ?_) | (refine WQ.step (fun K hK => ?_); go_simp; first | (refine hK _ ?_; clear hK K) | (apply Exists.intro; refine ⟨fun _ => ?_, hK _ ?_⟩; (first | (go_at_call 59; exact c59 _ _) | (go_at_call 47; exact c47 _ _) | (go_at_call 24; exact c24 _ _) | (go_at_call 49; exact c49 _ _) | (go_at_call 60; exact c60 _ _) | (go_at_call 61; exact c61 _ _) | (go_at_call 56; exact c56 _ _)); clear hK K)))
          refine WQ.nil ?_
          intro _ hw'
          obtain ⟨⟨dq, osq⟩, hw''⟩ := hw'
          subst hw''
          clear c59 c47 c24 c49 c60 c61 c56 s1 s10 s13 hBq
          go_wp2_with fail
          exact ⟨⟨q + 1, vL', st', by omega, by simp, HP.out.below (below_regrown _ dq osq)⟩, by simp [intOf]; omega⟩
    · have hqn : q = len := by omega
      subst hqn
      have hbel := hP.cm.bel
      go_wp2
      go_ret
      exact ⟨rfl, hbel⟩
end Go.Proofs.Ytadheikcgdhcdaa
