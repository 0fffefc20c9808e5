/-
  Messages that are put, sent, answered, thrown away: the walk.
-/
import Derived.Test.YtadheikcgdhcdaaHpP
import Derived.Test.YtadheikcgdhcdaaHpA
import Derived.Test.YtadheikcgdhcdaaRq
namespace Go.Proofs.Ytadheikcgdhcdaa
open Go.RowKit Go.Sort
set_option linter.unusedVariables false
set_option linter.unusedSimpArgs false

/-- A new block for a side. -/
theorem side_new (w : World) (cs : List Value) : ∃ X, X = (w.alloc (.cells #[.slice none 0 0, .int .i64 0, .int .i64 0, .int .i64 0, .int .i64 0, .bool false, .int .i64 0, .int .i64 0, .bool false, .bool false, .int .i64 0, .bool false, .int .i64 0, .bool false, .bool false, .bool false, .bool false, .bool false] 51)).setRow w.heap.size cs.toArray ∧ Blk X w.heap.size cs 51 ∧ Below w.heap.size w X :=
  ⟨_, rfl, Blk.row (Blk.new w side0 51) cs, below_row ((Below.refl _ _).alloc (Nat.le_refl _) _) (Nat.le_refl _) _⟩
set_option maxRecDepth 100000 in
set_option maxHeartbeats 16000000 in
theorem hplays_main (T : ToldT) (m0 o0 : Int) (a : Option Addr) (len cap : Nat) (w : World) (hz : Hacts w a len) (hm : len ≤ 60) (hm0 : 0 ≤ m0 ∧ m0 ≤ 65535) (ho0 : 0 ≤ o0 ∧ o0 ≤ 65535) :
    Calls Try.prog 7 #[.int .u16 m0, .int .u16 o0, .slice a len cap] w fun e w' => e = .returned (.bool true) ∧ Below w.heap.size w w' := by
  have HZ := Lib.hid hz
  have hd : ¬ ((60 : Int) < (len : Int)) := by omega
  have hwa : IntKind.i64.wrap m0 = m0 := wrapH _ (by omega)
  have hwb : IntKind.i64.wrap o0 = o0 := wrapH _ (by omega)
  obtain ⟨A, hA⟩ : ∃ A : Int, m0 % 40 = A := ⟨_, rfl⟩
  have hAt : m0.tmod 40 = A := by rw [Int.tmod_eq_emod_of_nonneg (by omega)]; exact hA
  obtain ⟨B, hB⟩ : ∃ B : Int, o0 % 600 = B := ⟨_, rfl⟩
  have hBt : o0.tmod 600 = B := by rw [Int.tmod_eq_emod_of_nonneg (by omega)]; exact hB
  obtain ⟨m, hmd⟩ : ∃ m : Int, 1 + A = m := ⟨_, rfl⟩
  obtain ⟨o, hod⟩ : ∃ o : Int, 1 + B = o := ⟨_, rfl⟩
  have hA1 : IntKind.i64.wrap (1 + A) = m := by rw [wrapH _ (by omega)]; exact hmd
  have hB1 : IntKind.i64.wrap (1 + B) = o := by rw [wrapH _ (by omega)]; exact hod
  have hmb : m ≤ 1000 := by omega
  clear hz hA hB hmd hod hm0 ho0
  go_enter Try.func7, Try.ntmps7
  go_wp2_with fail
  refine (awake10_any _).mono ?_
  rintro e w0 ⟨rfl, hB0⟩
  go_wp2_with fail
  refine (HOf.new w w0 hB0 m o).mono ?_
  rintro e w2 ⟨h, rfl, hH, -⟩
  go_wp2_with fail
  refine (rnew m o w2).mono ?_
  rintro e w3 ⟨rfl, hB3⟩
  obtain ⟨sv0, nv0, hX0, hro0⟩ := hH.ex
  have hX1 := hX0.below hB3
  have hbel1 := hH.bel.trans (hB3.mono hH.bel.size)
  have hhW := hH.beh
  clear hH hX0 hB0 hB3
  have hR0 := Blk.new w3 side0 51
  have hba : Below w3.heap.size w3 ((w3.alloc (.cells side0.toArray 51)).setRow w3.heap.size (sdc (.slice none 0 0) 0 0 m o t0).toArray) := below_row ((Below.refl _ _).alloc (Nat.le_refl _) _) (Nat.le_refl _) _
  have hP : PW w ((w3.alloc (.cells #[.slice none 0 0, .int .i64 0, .int .i64 0, .int .i64 0, .int .i64 0, .bool false, .int .i64 0, .int .i64 0, .bool false, .bool false, .int .i64 0, .bool false, .int .i64 0, .bool false, .bool false, .bool false, .bool false, .bool false] 51)).setRow w3.heap.size (sdc (.slice none 0 0) 0 0 m o t0).toArray) h w3.heap.size m o 0 sv0 nv0 (.slice none 0 0) [] [] :=
    ⟨hbel1.trans (hba.mono hbel1.size), hX1.below hba, RR.nil _ _, Blk.row hR0 _, fun g hg => (by cases hg), hro0, hhW, hbel1.size, fun x hx => by simp at hx⟩
  go_upto_region 7 with (refine wpList_side_store rfl (.tmp 10) (.tmp 47) rfl w3.heap.size (sdc (.slice none 0 0) 0 0 m o t0) side0 rfl rfl hR0 rfl rfl (sdc_one _ _ _ _ _ _ _ _) ?_)
  clear hX1 hbel1 hhW hro0 hR0 hba
  generalize (w3.alloc (.cells #[.slice none 0 0, .int .i64 0, .int .i64 0, .int .i64 0, .int .i64 0, .bool false, .int .i64 0, .int .i64 0, .bool false, .bool false, .int .i64 0, .bool false, .int .i64 0, .bool false, .bool false, .bool false, .bool false, .bool false] 51)).setRow w3.heap.size (sdc (.slice none 0 0) 0 0 m o t0).toArray = w4 at *
  generalize w3.heap.size = s at *
  go_wp2_with fail
  go_loopw [11] (fun i wr => ∃ (q : Nat) (f : Int) (sv nv vL : Value) (ss ns : List (List Int)), q ≤ len ∧ i = .int .i64 q ∧ PW w wr h s m o f sv nv vL ss ns) (fun i _ => len - (intOf i).toNat)
  case atStart => exact ⟨0, 0, _, _, _, [], [], Nat.zero_le _, rfl, hP⟩
  case round =>
    clear hP
    obtain ⟨q, f, sv, nv, vL, ss, ns, hq, rfl, hP⟩ := hrel
    by_cases hlt : q < len
    · have hlt2 : (q : Int) < (len : Int) := by omega
      obtain ⟨x, k, y, v, p, rfl, e1, e2, e3, hkb, hyb, ho, hbp⟩ := HZ.out q hlt
      have hbel := hP.bel
      have e1' := (hbel.cell (World.block_lt_of_cell? _ _ e1)).trans e1
      have e2' := (hbel.cell (World.block_lt_of_cell? _ _ e2)).trans e2
      have e3' := (hbel.cell (World.block_lt_of_cell? _ _ e3)).trans e3
      have a1 : x.add (q * 3 + 1) = ⟨(x.add (q * 3)).block, (x.add (q * 3)).off + 1, none⟩ := by rw [← Go.Deep.add_add]; rfl
      have a2 : x.add (q * 3 + 2) = ⟨(x.add (q * 3)).block, (x.add (q * 3)).off + 2, none⟩ := by rw [← Go.Deep.add_add]; rfl
      rw [a1] at e2'
      rw [a2] at e3'
      clear a1 a2
      have hoW := ho
      obtain ⟨pa, pc, rfl, -⟩ := ho
      obtain ⟨pl, hpl⟩ : ∃ pl, p.length = pl := ⟨_, rfl⟩
      rw [hpl] at e3' hoW
      have HPL := Lib.hid hpl
      have hU := Blk.new wr [.int .u8 k, .int .u8 y, .slice pa pl pc] 54
      have hba : Below wr.heap.size wr (wr.alloc (.cells #[.int .u8 k, .int .u8 y, .slice pa pl pc] 54)) := (Below.refl _ _).alloc (Nat.le_refl _) _
      have hP1 := hP.below hba
      clear hP e1 e2 e3 hba hpl
      go_upto_region 11 with fail
      have hbl := hP1.bel
      generalize wr.alloc (.cells #[.int .u8 k, .int .u8 y, .slice pa pl pc] 54) = X at *
      generalize wr.heap.size = b at *
      clear e1' e2' e3' hbel
      have u0 := hU.cell 0 rfl
      have u2 := hU.cell 2 rfl
      by_cases hp3 : 300 < pl
      · have hp3i : (300 : Int) < (pl : Int) := by omega
        go_wp2
        go_ret
        exact ⟨rfl, hbl⟩
      · have hp3i : ¬ (300 : Int) < (pl : Int) := by omega
        obtain ⟨kk, hkk⟩ : ∃ kk : Int, k % 10 = kk := ⟨_, rfl⟩
        have hkt : k.tmod 10 = kk := by rw [Int.tmod_eq_emod_of_nonneg (by omega)]; exact hkk
        have hku : IntKind.u8.wrap kk = kk := by simp [IntKind.wrap, IntKind.bits, IntKind.signed]; omega
        have hkb2 : 0 ≤ kk ∧ kk ≤ 9 := by omega
        clear hkk
        go_upto_block 2 with fail
        clear u0 hkt hku
        go_cut [13] (fun v wx => ∃ (f' : Int) (sv' nv' vL' : Value) (ss' ns' : List (List Int)), v = .int .u8 kk ∧ PW w wx h s m o f' sv' nv' vL' ss' ns')
        case first =>
          by_cases c4 : kk < 4
          · -- one is put
            as_aux_lemma =>
            go_wp2_with (refine wpList_side_load rfl (.tmp 10) rfl s rfl _ hP1.sd rfl ?_)
            have hrp := hP1.rput (.slice pa pl pc) p hoW (by rw [HPL.out]; omega)
            rw [HPL.out] at hrp
            have hby' : ∀ x ∈ ss ++ (if putCode m o ss ns pl = 0 then ns ++ [p] else ns), ∀ z ∈ x, 0 ≤ z ∧ z < 256 := by
              intro x hx
              split at hx
              · rw [← List.append_assoc] at hx
                rcases List.mem_append.1 hx with e | e
                · exact hP1.by' x e
                · rw [List.mem_singleton.1 e]; exact hbp
              · exact hP1.by' x hx
            obtain ⟨ns', hns'⟩ : ∃ ns', (if putCode m o ss ns pl = 0 then ns ++ [p] else ns) = ns' := ⟨_, rfl⟩
            obtain ⟨cd, hcd⟩ : ∃ cd, putCode m o ss ns pl = cd := ⟨_, rfl⟩
            rw [hns'] at hby'
            have HPC := Lib.hid (And.intro hns' hcd)
            rw [hns', hcd] at hrp
            clear hns' hcd
            refine hrp.mono ?_
            rintro e w5 ⟨vL', rfl, hP5, hb5, hR5, hap5⟩
            have hU5 := hU.below hb5
            obtain ⟨a5, c5, rfl⟩ := hR5.shape
            obtain ⟨Nn, hNn⟩ : ∃ Nn, (ss ++ ns').length = Nn := ⟨_, rfl⟩
            rw [hNn] at hR5 hap5 ⊢
            clear hrp hNn hU hP1 u2
            have hR0 := Blk.new w5 side0 51
            obtain ⟨X6, hX6, hB14, hb6⟩ := side_new w5 (sdc (.slice a5 Nn c5) ss.length f m o t0)
            have hP6 := hP5.below hb6
            have hR6 := hR5.below hb6
            have hU6 := hU5.below hb6
            have hput := hP6.hx.put (.slice pa pl pc) p (hoW.below hP6.bel) hmb
            rw [HPL.out, HPC.out.1, HPC.out.2] at hput
            clear hb6 hP5 hR5 hU5 hb5
            go_upto_region 18 with (refine wpList_side_store rfl (.tmp 14) (.tmp 78) rfl w5.heap.size (sdc (.slice a5 Nn c5) ss.length f m o t0) side0 rfl rfl hR0 rfl rfl (sdc_one _ _ _ _ _ _ _ _) ?_)
            rw [← hX6]
            clear hX6 hR0
            generalize w5.heap.size = b14 at *
            have d2 := hU6.cell 2 rfl
            go_wp2_with fail
            refine hput.mono ?_
            rintro e w7 ⟨rfl, nv7, kn, hF⟩
            have hB15 := hP6.hx.keep hF hB14 (by decide) (by decide)
            have hsd7 := hP6.hx.keep hF hP6.sd (by decide) (by decide)
            clear d2 hput hB14 hU6
            go_wp2_with (first | (refine wpList_side_load rfl (.tmp 14) rfl b14 rfl _ hB15 rfl ?_) | (refine wpList_side_store rfl (.tmp 10) (.tmp 86) rfl s (sdc (.slice a5 Nn c5) ss.length f m o t0) _ rfl rfl hsd7 rfl rfl (sdc_one _ _ _ _ _ _ _ _) ?_))
            go_meet
            exact ⟨f, sv, nv7, _, ss, ns', rfl, hP6.step kn hF hR6 hap5 hby' rfl⟩
          · by_cases c6 : kk < 6
            · -- one is sent
              obtain ⟨av, cv, rfl⟩ := hP1.rr.shape
              obtain ⟨Nn, hNn⟩ : ∃ Nn, (ss ++ ns).length = Nn := ⟨_, rfl⟩
              rw [hNn] at hP1
              have HNn := Lib.hid hNn
              clear hNn
              have hrs := hP1.rsend
              cases ns with
              | nil =>
                as_aux_lemma =>
                rw [if_pos rfl, if_pos rfl] at hrs
                go_wp2_with (refine wpList_side_load rfl (.tmp 10) rfl s rfl _ hP1.sd rfl ?_)
                refine hrs.mono ?_
                rintro e w5 ⟨rfl, hP5, hb5, hR5⟩
                obtain ⟨X6, hX6, hB16, hb6⟩ := side_new w5 (sdc (.slice av Nn cv) ss.length f m o t0)
                have hP6 := hP5.below hb6
                have hR0 := Blk.new w5 side0 51
                have hsn := hP6.hx.send_none
                clear hb6 hP5 hR5 hb5 hrs hP1 hU u2
                go_upto_region 23 with (refine wpList_side_store rfl (.tmp 16) (.tmp 93) rfl w5.heap.size (sdc (.slice av Nn cv) ss.length f m o t0) side0 rfl rfl hR0 rfl rfl (sdc_one _ _ _ _ _ _ _ _) ?_)
                rw [← hX6]
                clear hX6 hR0
                generalize w5.heap.size = b16 at *
                go_wp2_with fail
                refine hsn.mono ?_
                rintro e w7 ⟨rfl, rfl⟩
                have hP8 := hP6.step hP6.hx (HF.refl _ _ _ _) hP6.rr hP6.ap hP6.by' rfl
                go_upto_region 27 with (first | (refine wpList_side_load rfl (.tmp 16) rfl b16 rfl _ hB16 rfl ?_) | (refine wpList_side_store rfl (.tmp 10) (.tmp 104) rfl s (sdc (.slice av Nn cv) ss.length f m o t0) _ rfl rfl hP6.sd rfl rfl (sdc_one _ _ _ _ _ _ _ _) ?_))
                generalize w7.setRow s (sdc (.slice av Nn cv) ss.length f m o t0).toArray = w8 at *
                refine wp_region_quiet_below (by kernel_rfl) (by kernel_rfl) (WQ.out ?_)
                repeat (refine WQ.step (fun K hK => ?_); go_simp; first | (refine hK _ ?_; clear hK K) | (apply Exists.intro; refine ⟨fun _ => ?_, hK _ ?_⟩; fail; clear hK K))
                refine WQ.nil ?_
                intro _ hw'
                obtain ⟨⟨dq, osq⟩, hw''⟩ := hw'
                subst hw''
                go_wp2
                go_meet
                exact ⟨f, sv, nv, _, ss, _, rfl, hP8.below (below_regrown _ dq osq)⟩
              | cons x0 r =>
                rw [if_neg (List.cons_ne_nil x0 r), if_neg (List.cons_ne_nil x0 r)] at hrs
                by_cases h127 : 127 ≤ ss.length
                ·
                  as_aux_lemma =>
                  rw [if_pos h127, if_pos h127] at hrs
                  go_wp2_with (refine wpList_side_load rfl (.tmp 10) rfl s rfl _ hP1.sd rfl ?_)
                  refine hrs.mono ?_
                  rintro e w5 ⟨rfl, hP5, hb5, hR5⟩
                  obtain ⟨X6, hX6, hB16, hb6⟩ := side_new w5 (sdc (.slice av Nn cv) ss.length f m o t0)
                  have hP6 := hP5.below hb6
                  have hR0 := Blk.new w5 side0 51
                  have hsn := hP6.hx.send_full (by simp) h127
                  clear hb6 hP5 hR5 hb5 hrs hP1 hU u2
                  go_upto_region 23 with (refine wpList_side_store rfl (.tmp 16) (.tmp 93) rfl w5.heap.size (sdc (.slice av Nn cv) ss.length f m o t0) side0 rfl rfl hR0 rfl rfl (sdc_one _ _ _ _ _ _ _ _) ?_)
                  rw [← hX6]
                  clear hX6 hR0
                  generalize w5.heap.size = b16 at *
                  go_wp2_with fail
                  refine hsn.mono ?_
                  rintro e w7 ⟨rfl, rfl⟩
                  have hP8 := hP6.step hP6.hx (HF.refl _ _ _ _) hP6.rr hP6.ap hP6.by' rfl
                  go_upto_region 27 with (first | (refine wpList_side_load rfl (.tmp 16) rfl b16 rfl _ hB16 rfl ?_) | (refine wpList_side_store rfl (.tmp 10) (.tmp 104) rfl s (sdc (.slice av Nn cv) ss.length f m o t0) _ rfl rfl hP6.sd rfl rfl (sdc_one _ _ _ _ _ _ _ _) ?_))
                  generalize w7.setRow s (sdc (.slice av Nn cv) ss.length f m o t0).toArray = w8 at *
                  refine wp_region_quiet_below (by kernel_rfl) (by kernel_rfl) (WQ.out ?_)
                  repeat (refine WQ.step (fun K hK => ?_); go_simp; first | (refine hK _ ?_; clear hK K) | (apply Exists.intro; refine ⟨fun _ => ?_, hK _ ?_⟩; fail; clear hK K))
                  refine WQ.nil ?_
                  intro _ hw'
                  obtain ⟨⟨dq, osq⟩, hw''⟩ := hw'
                  subst hw''
                  go_wp2
                  go_meet
                  exact ⟨f, sv, nv, _, ss, _, rfl, hP8.below (below_regrown _ dq osq)⟩
                ·
                  as_aux_lemma =>
                  rw [if_neg h127, if_neg h127] at hrs
                  obtain ⟨s1, hs1⟩ : ∃ s1, ss ++ [x0] = s1 := ⟨_, rfl⟩
                  have hsl : (ss.length : Int) + 1 = (s1.length : Int) := by rw [← hs1]; simp
                  have hsr : ss ++ x0 :: r = s1 ++ r := by rw [← hs1]; simp
                  rw [hsl] at hrs
                  go_wp2_with (refine wpList_side_load rfl (.tmp 10) rfl s rfl _ hP1.sd rfl ?_)
                  refine hrs.mono ?_
                  rintro e w5 ⟨rfl, hP5, hb5, hR5⟩
                  obtain ⟨X6, hX6, hB16, hb6⟩ := side_new w5 (sdc (.slice av Nn cv) s1.length f m o t0)
                  have hP6 := hP5.below hb6
                  have hR0 := Blk.new w5 side0 51
                  have hsn := hP6.hx.send_ok (by omega)
                  have hR6 := hR5.below hb6
                  rw [hsr] at hR6
                  have hby6 := hP6.by'
                  rw [hsr] at hby6
                  rw [hs1] at hsn
                  have HS := Lib.hid (And.intro hsl (And.intro hs1 hsr))
                  have hfin := hP6.hx.fin
                  clear hb6 hP5 hR5 hb5 hrs hP1 hU u2 hsl hs1 hsr
                  go_upto_region 23 with (refine wpList_side_store rfl (.tmp 16) (.tmp 93) rfl w5.heap.size (sdc (.slice av Nn cv) s1.length f m o t0) side0 rfl rfl hR0 rfl rfl (sdc_one _ _ _ _ _ _ _ _) ?_)
                  rw [← hX6]
                  clear hX6 hR0
                  generalize w5.heap.size = b16 at *
                  obtain ⟨nn, hnn⟩ : ∃ nn : Int, (f + (ss.length : Int)) % 128 = nn := ⟨_, rfl⟩
                  rw [hnn] at hsn
                  go_wp2_with fail
                  refine hsn.mono ?_
                  rintro e w7 ⟨g8, c8, cs8, rfl, ⟨sv7, nv7, kn, hF⟩, hB8, hc8, -⟩
                  have hP8 := hP6.step kn hF hR6 hP6.ap hby6 rfl
                  have hB17 := hP6.hx.keep hF hB16 (by decide) (by decide)
                  have hsd7 := hP6.hx.keep hF hP6.sd (by decide) (by decide)
                  have hB9 : Blk (w7.setRow s (sdc (.slice av Nn cv) s1.length f m o t0).toArray) g8 cs8 5 := hB8.fr (Fr.row1 w7 s _) (fun e => Blk.apart hB8 hsd7 (by decide) e)
                  clear hsn hB16 hB8
                  go_upto_region 27 with (first | (refine wpList_side_load rfl (.tmp 16) rfl b16 rfl _ hB17 rfl ?_) | (refine wpList_side_store rfl (.tmp 10) (.tmp 104) rfl s (sdc (.slice av Nn cv) s1.length f m o t0) _ rfl rfl hsd7 rfl rfl (sdc_one _ _ _ _ _ _ _ _) ?_))
                  clear hB17 hsd7 hP6 kn hF hR6 hby6
                  generalize w7.setRow s (sdc (.slice av Nn cv) s1.length f m o t0).toArray = w8 at *
                  obtain ⟨hsl, hs1, hsr⟩ := HS.out
                  have hcn := hP8.cnt
                  have hNn2 := HNn.out
                  rw [hsr] at hNn2
                  have hxL : (s1 ++ r)[ss.length]? = some x0 := by rw [← hsr]; simp
                  have hiN : ss.length < Nn := by rw [← hNn2, List.length_append]; omega
                  have hbx := hP8.by' x0 (List.mem_of_getElem? hxL)
                  obtain ⟨g2, p2, cap2, v2, e3, y2, o2'⟩ := hP8.rr.msg ss.length x0 hxL
                  simp only [Value.slice.injEq] at e3
                  obtain ⟨rfl, -, rfl⟩ := e3
                  have hcpl := hP8.rr.len
                  have o2w := o2'.below hP8.bel
                  obtain ⟨a2, d2, rfl, -⟩ := o2'
                  have g30 := rnumber (some ⟨g2, p2, none⟩) Nn cv s1.length f m o t0 (ss.length : Int) w8 (by omega) (by omega) (by omega) hfin
                  rw [hnn] at g30
                  have g30' : ∀ d os, Calls Try.prog 30 #[.agg (sdc (.slice (some ⟨g2, p2, none⟩) Nn cv) s1.length f m o t0).toArray, .int .i64 (ss.length : Int)] (grow (redrawn w8 d) os) fun e w' => e = .returned (.int .i64 nn) ∧ Below (grow (redrawn w8 d) os).heap.size (grow (redrawn w8 d) os) w' := fun d os => by
                    have := rnumber (some ⟨g2, p2, none⟩) Nn cv s1.length f m o t0 (ss.length : Int) (grow (redrawn w8 d) os) (by omega) (by omega) (by omega) hfin
                    rw [hnn] at this
                    exact this
                  have c30 := fun d os => Calls.regrown_of (g30' d os)
                  have o1 : Oct w8 (.slice (some ⟨g8, 0, none⟩) x0.length c8) x0 := Oct.blk hB9 hc8
                  have t1 := fun d os => (o1.below (below_regrown w8 d os)).str hbx
                  have t2 := fun d os => (o2w.below (below_regrown w8 d os)).str hbx
                  have hBq := blk_regrown hP8.sd
                  have k0 := cell_regrown (hP8.sd.cell 0 rfl)
                  have k1 := cell_regrown (hP8.sd.cell 1 rfl)
                  have kL := cell_regrown y2
                  have hwm : IntKind.i64.wrap ((s1.length : Int) - 1) = (ss.length : Int) := by rw [wrapH _ (by omega)]; omega
                  have hwn : IntKind.i64.wrap nn = nn := wrapH _ (by omega)
                  have hcap : Nn ≤ cv ∧ cv ≤ maxLen := by omega
                  clear g30 g30' o1 o2w y2 hbx hxL hcpl hcn hB9 hc8
                  generalize x0.length = xl at *
                  generalize strOfNums x0 = sx at *
                  refine wp_region_quiet_below (by kernel_rfl) (by kernel_rfl) (WQ.out ?_)
                  repeat (first | (refine WQ.load (.tmp 10) (by rfl) (by rfl) s (by rfl) _ hBq (by rfl) ?_) | (refine WQ.step (fun K hK => ?_); go_simp; first | (refine hK _ ?_; clear hK K) | (apply Exists.intro; refine ⟨fun _ => ?_, hK _ ?_⟩; exact c30 _ _; clear hK K)))
                  refine WQ.nil ?_
                  intro _ hw'
                  obtain ⟨⟨dq, osq⟩, hw''⟩ := hw'
                  subst hw''
                  go_wp2
                  go_meet
                  exact ⟨f, sv7, nv7, _, s1, r, rfl, hP8.below (below_regrown w8 dq osq)⟩
            · obtain ⟨av, cv, rfl⟩ := hP1.rr.shape
              obtain ⟨Nn, hNn⟩ : ∃ Nn, (ss ++ ns).length = Nn := ⟨_, rfl⟩
              rw [hNn] at hP1
              have hcn := hP1.cnt
              have hfin := hP1.hx.fin
              have hwin := hP1.hx.win
              by_cases c8 : kk < 8
              ·
                as_aux_lemma =>
                have u1 := hU.cell 1 rfl
                have c1 := hP1.sd.cell 1 rfl
                clear u2
                go_upto_region 31 with fail
                obtain ⟨yb, hyb2⟩ : ∃ yb : Bool, (decide (y < 200) && decide (0 < ss.length)) = yb := ⟨_, rfl⟩
                go_cut [141] (fun v wx => v = .bool yb ∧ wx = X)
                case first =>
                  by_cases hy : y < 200
                  · by_cases hs0 : (0 : Int) < (ss.length : Int)
                    · have : yb = true := by rw [← hyb2, decide_eq_true hy, decide_eq_true (show 0 < ss.length by omega)]; rfl
                      subst this
                      go_wp2
                      go_meet
                      exact ⟨by rw [decide_eq_true (show 0 < ss.length by omega)], rfl⟩
                    · have : yb = false := by rw [← hyb2, decide_eq_false (show ¬ 0 < ss.length by omega), Bool.and_false]
                      subst this
                      go_wp2
                      go_meet
                      exact ⟨by rw [decide_eq_false (show ¬ 0 < ss.length by omega)], rfl⟩
                  · have : yb = false := by rw [← hyb2, decide_eq_false hy, Bool.false_and]
                    subst this
                    go_wp2
                    go_meet
                    exact ⟨by simp, rfl⟩
                obtain ⟨h141, hyc⟩ := hcut
                rw [hyc]
                have H141 := Lib.hid h141
                clear hyc h141
                go_wp2_with fail
                go_cut [21] (fun v wx => ∃ n : Int, (0 ≤ n ∧ n ≤ 255) ∧ v = .int .u8 n ∧ Below X.heap.size X wx)
                case first =>
                  cases yb with
                  | false =>
                    have h141 := H141.out
                    subst h141
                    go_wp2
                    go_meet
                    exact ⟨y, by omega, rfl, Below.refl _ _⟩
                  | true =>
                    have h141 := H141.out
                    subst h141
                    have hs0 : 0 < ss.length := by have := (Bool.and_eq_true _ _ ▸ hyb2 : decide (y < 200) = true ∧ decide (0 < ss.length) = true).2; exact of_decide_eq_true this
                    clear hyb2 u1 c1
                    have hy0 := Int.emod_nonneg y (show (ss.length : Int) ≠ 0 by omega)
                    have hy1 := Int.emod_lt_of_pos y (show 0 < (ss.length : Int) by omega)
                    have hyt : y.tmod (ss.length : Int) = y % (ss.length : Int) := Int.tmod_eq_emod_of_nonneg (by omega)
                    obtain ⟨R, hR⟩ : ∃ R : Int, y % (ss.length : Int) = R := ⟨_, rfl⟩
                    rw [hR] at hy0 hy1 hyt
                    obtain ⟨nn, hnn⟩ : ∃ nn : Int, (f + R) % 128 = nn := ⟨_, rfl⟩
                    have c30 : ∀ d os, Calls Try.prog 30 #[.agg (sdc (.slice av Nn cv) ss.length f m o t0).toArray, .int .i64 R] (grow (redrawn X d) os) fun e w'' => e = .returned (.int .i64 nn) ∧ ∃ p : Regrown, w'' = grow (redrawn X p.d) p.os := fun d os => by
                      have := rnumber av Nn cv ss.length f m o t0 R (grow (redrawn X d) os) (by omega) (by omega) (by omega) hfin
                      rw [hnn] at this
                      exact Calls.regrown_of this
                    have u1 := cell_regrown (hU.cell 1 rfl)
                    have hBq := blk_regrown hP1.sd
                    have k0 := cell_regrown (hP1.sd.cell 0 rfl)
                    have k1 := cell_regrown (hP1.sd.cell 1 rfl)
                    have hws : (ss.length : Int) ≠ 0 := by omega
                    have hsne : ss ≠ [] := fun e => by rw [e] at hs0; simp at hs0
                    have hwy : IntKind.i64.wrap y = y := wrapH _ (by omega)
                    have hwr : IntKind.i64.wrap R = R := wrapH _ (by omega)
                    have hwn : IntKind.u8.wrap nn = nn := by simp [IntKind.wrap, IntKind.bits, IntKind.signed]; omega
                    go_upto_region 32 with fail
                    refine wp_region_quiet_below (by kernel_rfl) (by kernel_rfl) (WQ.out ?_)
                    repeat (first | (refine WQ.load (.tmp 10) (by rfl) (by rfl) s (by rfl) _ hBq (by rfl) ?_) | (refine WQ.step (fun K hK => ?_); go_simp; first | (refine hK _ ?_; clear hK K) | (apply Exists.intro; refine ⟨fun _ => ?_, hK _ ?_⟩; exact c30 _ _; clear hK K)))
                    refine WQ.nil ?_
                    intro _ hw'
                    obtain ⟨⟨dq, osq⟩, hw''⟩ := hw'
                    subst hw''
                    go_wp2
                    go_meet
                    exact ⟨nn, by omega, rfl, below_regrown X dq osq⟩
                obtain ⟨n, hn, rfl, hbn⟩ := hcut
                have hP2 := hP1.below hbn
                have hrt := rest_true hP2.hx rfl hP2.rr hP2.bel hP2.by' m o t0 n hn
                have hwnn : IntKind.i64.wrap n = n := wrapH _ (by omega)
                clear hP1 hbn c1 u1 hyb2 hU
                go_wp2_with (refine wpList_side_load rfl (.tmp 10) rfl s rfl _ hP2.sd rfl ?_)
                refine hrt.mono ?_
                rintro e w5 ⟨rfl, hb5⟩
                have hP3 := hP2.below hb5
                clear hP2 hb5 hrt
                cases hk : knowsB f ss.length n with
                | false =>
                  have hrf := hP3.rfree_no n hn hk
                  go_wp2_with (refine wpList_side_load rfl (.tmp 10) rfl s rfl _ hP3.sd rfl ?_)
                  refine hrf.mono ?_
                  rintro e w6 ⟨rfl, hP6, hb6⟩
                  obtain ⟨X7, hX7, hB22, hb7⟩ := side_new w6 (sdc (.slice av Nn cv) ss.length f m o t0)
                  have hP7 := hP6.below hb7
                  have hR0 := Blk.new w6 side0 51
                  have hfr := hP7.hx.free_no n hn hk
                  clear hP3 hb6 hrf hP6 hb7
                  go_upto_region 36 with (refine wpList_side_store rfl (.tmp 22) (.tmp 161) rfl w6.heap.size (sdc (.slice av Nn cv) ss.length f m o t0) side0 rfl rfl hR0 rfl rfl (sdc_one _ _ _ _ _ _ _ _) ?_)
                  rw [← hX7]
                  clear hX7 hR0
                  generalize w6.heap.size = b22 at *
                  go_wp2_with fail
                  refine hfr.mono ?_
                  rintro e w8 ⟨rfl, q8, rfl⟩
                  have hP8 := hP7.below (below_drewN (Below.refl _ _) q8)
                  have hB23 := hB22.drewN q8
                  have hP9 := hP8.step hP8.hx (HF.refl _ _ _ _) hP8.rr hP8.ap hP8.by' rfl
                  have hsd8 := hP8.sd
                  clear hB22 hP7 hP8 hfr
                  generalize X7.drewN q8 = w9 at *
                  go_wp2_with (first | (refine wpList_side_load rfl (.tmp 22) rfl b22 rfl _ hB23 rfl ?_) | (refine wpList_side_store rfl (.tmp 10) (.tmp 192) rfl s (sdc (.slice av Nn cv) ss.length f m o t0) _ rfl rfl hsd8 rfl rfl (sdc_one _ _ _ _ _ _ _ _) ?_))
                  go_meet
                  exact ⟨f, sv, nv, _, ss, ns, rfl, hP9⟩
                | true =>
                  obtain ⟨i, hi⟩ : ∃ i : Nat, (n - f + 1) % 128 = i := ⟨((n - f + 1) % 128).toNat, by omega⟩
                  have hrf := hP3.rfree n hn i hk hi
                  obtain ⟨f2, hf2⟩ : ∃ f2 : Int, (n + 1) % 128 = f2 := ⟨_, rfl⟩
                  obtain ⟨s2, hs2⟩ : ∃ s2, ss.drop i = s2 := ⟨_, rfl⟩
                  rw [hf2, hs2] at hrf
                  have hi0 : ¬ ((i : Int) < 0) := by omega
                  have hi1 : (0 : Int) ≤ (i : Int) := by omega
                  go_wp2_with (refine wpList_side_load rfl (.tmp 10) rfl s rfl _ hP3.sd rfl ?_)
                  refine hrf.mono ?_
                  rintro e w6 ⟨vL', rfl, hP6, hb6, hR6, hap6⟩
                  obtain ⟨a6, c6', rfl⟩ := hR6.shape
                  obtain ⟨Nm, hNm⟩ : ∃ Nm, (s2 ++ ns).length = Nm := ⟨_, rfl⟩
                  rw [hNm] at hR6 hap6
                  try rw [hNm]
                  have HNm := Lib.hid hNm
                  clear hNm
                  obtain ⟨X7, hX7, hB22, hb7⟩ := side_new w6 (sdc (.slice a6 Nm c6') s2.length f2 m o t0)
                  have hP7 := hP6.below hb7
                  have hR7 := hR6.below hb7
                  have hR0 := Blk.new w6 side0 51
                  have hfr := hP7.hx.free_yes n hn hk i hi
                  rw [hf2, hs2] at hfr
                  have hby7 : ∀ x ∈ s2 ++ ns, ∀ z ∈ x, 0 ≤ z ∧ z < 256 := fun x hx => by
                    refine hP7.by' x ?_
                    rw [← hs2] at hx
                    rcases List.mem_append.1 hx with e | e
                    · exact List.mem_append_left _ (List.mem_of_mem_drop e)
                    · exact List.mem_append_right _ e
                  have HF2 := Lib.hid (And.intro hf2 hs2)
                  clear hP3 hb6 hrf hP6 hb7 hR6 hf2 hs2 hi
                  go_upto_region 36 with (refine wpList_side_store rfl (.tmp 22) (.tmp 161) rfl w6.heap.size (sdc (.slice a6 Nm c6') s2.length f2 m o t0) side0 rfl rfl hR0 rfl rfl (sdc_one _ _ _ _ _ _ _ _) ?_)
                  rw [← hX7]
                  clear hX7 hR0
                  generalize w6.heap.size = b22 at *
                  go_wp2_with fail
                  refine hfr.mono ?_
                  rintro e w8 ⟨rfl, sv8, kn, hF⟩
                  have hB23 := hP7.hx.keep hF hB22 (by decide) (by decide)
                  have hsd8 := hP7.hx.keep hF hP7.sd (by decide) (by decide)
                  have hP9 := hP7.step kn hF hR7 hap6 hby7 rfl
                  clear hB22 hfr kn hF hR7 hap6 hby7 hP7
                  go_wp2_with (first | (refine wpList_side_load rfl (.tmp 22) rfl b22 rfl _ hB23 rfl ?_) | (refine wpList_side_store rfl (.tmp 10) (.tmp 192) rfl s (sdc (.slice a6 Nm c6') s2.length f2 m o t0) _ rfl rfl hsd8 rfl rfl (sdc_one _ _ _ _ _ _ _ _) ?_))
                  go_meet
                  exact ⟨f2, sv8, nv, _, s2, ns, rfl, hP9⟩
              · by_cases c9 : kk = 8
                ·
                  as_aux_lemma =>
                  subst c9
                  have c0 := hP1.sd.cell 0 rfl
                  have c1 := hP1.sd.cell 1 rfl
                  have hnl : IntKind.i64.wrap ((Nn : Int) - (ss.length : Int)) = (ns.length : Int) := by rw [List.length_append] at hNn hcn; rw [wrapH _ (by omega)]; omega
                  have hfl := fun q => (hP1.below (below_drewN (Below.refl _ _) q)).hx.flush
                  have HNn := Lib.hid hNn
                  clear u2 hU hNn
                  go_upto_region 41 with fail
                  go_cut [204] (fun v wx => v = .bool false ∧ ∃ q, HX wx h m o f sv (.slice none 0 0) ss [] ∧ HF (X.drewN q) wx h sv nv sv (.slice none 0 0))
                  case first =>
                    have hsdx := fun q => (hP1.below (below_drewN (Below.refl _ _) q)).sd
                    have hkp : ∀ q w', HF (X.drewN q) w' h sv nv sv (.slice none 0 0) → Blk w' s (sdc (.slice av Nn cv) ss.length f m o t0) 51 := fun q w' hF => (hP1.below (below_drewN (Below.refl _ _) q)).hx.keep hF (hsdx q) (by decide) (by decide)
                    go_region_with (go_at_call 33; refine (hfl _).mono ?_; rintro e w7 ⟨rfl, kn, hF⟩; have d0 := (hkp _ _ hF).cell 0 rfl; have d1 := (hkp _ _ hF).cell 1 rfl)
                    all_goals go_wp2
                    all_goals go_meet
                    all_goals exact ⟨by simp, _, kn, hF⟩
                  obtain ⟨rfl, q7, kn, hF⟩ := hcut
                  have hPd := hP1.below (below_drewN (Below.refl _ _) q7)
                  obtain ⟨e1, e2, hsd7⟩ := hPd.afterF hF
                  have hrfl := hPd.rflush _ _ e2 hcn
                  go_wp2_with (refine wpList_side_load rfl (.tmp 10) rfl s rfl _ hsd7 rfl ?_)
                  refine hrfl.mono ?_
                  rintro e w8 ⟨vL', rfl, hR8, hb8, how8⟩
                  have hR8n := hR8
                  rw [List.append_nil] at hR8n
                  obtain ⟨a8, c8', rfl⟩ := hR8n.shape
                  have hsd8 := hsd7.below hb8
                  have hP9 := hPd.step2 kn hF hb8 hR8 (fun g hg => .inl (how8 g hg)) (fun x hx => hPd.by' x (List.mem_append_left _ (by simpa using hx))) rfl
                  clear hrfl e2 hsd7 hPd kn hF hP1
                  go_wp2_with (refine wpList_side_store rfl (.tmp 10) (.tmp 206) rfl s (sdc (.slice a8 _ c8') ss.length f m o t0) _ rfl rfl hsd8 rfl rfl (sdc_one _ _ _ _ _ _ _ _) ?_)
                  go_meet
                  exact ⟨f, sv, _, _, ss, [], rfl, hP9⟩
                ·
                  as_aux_lemma =>
                  have hk9 : kk = 9 := by omega
                  subst hk9
                  have hcl := hP1.hx.clear
                  clear u2 hU hNn
                  go_upto_region 14 with fail
                  go_wp2_with fail
                  refine hcl.mono ?_
                  rintro e w7 ⟨rfl, kn, hF⟩
                  obtain ⟨e1, e2, hsd7⟩ := hP1.afterF hF
                  go_wp2_with fail
                  refine (rnew m o w7).mono ?_
                  rintro e w8 ⟨rfl, hb8⟩
                  have hsd8 := hsd7.below hb8
                  have hP9 := hP1.step2 kn hF hb8 (RR.nil w w8) (fun g hg => by cases hg) (fun x hx => by simp at hx) rfl
                  clear e2 hsd7 kn hF hP1 hcl
                  go_wp2_with (refine wpList_side_store rfl (.tmp 10) (.tmp 69) rfl s (sdc (.slice none 0 0) 0 0 m o t0) _ rfl rfl hsd8 rfl rfl (sdc_one _ _ _ _ _ _ _ _) ?_)
                  go_meet
                  exact ⟨0, _, _, _, [], [], rfl, hP9⟩
        case rest =>
          as_aux_lemma =>
          obtain ⟨f', sv', nv', vL', ss', ns', rfl, hP9⟩ := hcut
          have htd := hP9.told T
          have hwq : IntKind.i64.wrap ((q : Int) + 1) = (q : Int) + 1 := wrapH _ (by omega)
          clear u2 hU hP1
          go_wp2_with (refine wpList_side_load rfl (.tmp 10) rfl s rfl _ hP9.sd rfl ?_)
          refine htd.mono ?_
          rintro e w9 ⟨rfl, hP10⟩
          go_wp2_with fail
          exact ⟨⟨q + 1, f', sv', nv', vL', ss', ns', by omega, by simp, hP10⟩, by simp [intOf]; omega⟩
    · have hqn : q = len := by omega
      subst hqn
      have hbel := hP.bel
      go_wp2
      go_ret
      exact ⟨rfl, hbel⟩
end Go.Proofs.Ytadheikcgdhcdaa
