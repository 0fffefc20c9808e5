/-
  UnitKeeps: what was handed in may be written over.
-/
import Derived.Test.YtpgalefpccgpfaaUnitSW
import Derived.Test.YtpgalefpccgpfaaUnitDK
namespace Go.Proofs.Ytpgalefpccgpfaa
open Go.RowKit
set_option linter.unusedVariables false
set_option linter.unusedSimpArgs false

theorem str_pre (a b c : Int) (zs : List Int) : (strOfNums ([a, b, c] ++ zs)).extract 0 3 = strOfNums [a, b, c] := by
  apply Go.WideShapes.bytes_inj
  simp [strOfNums, ByteArray.data_extract]
theorem str_post (a b c : Int) (zs : List Int) (n : Nat) (h : n = 3 + zs.length) : (strOfNums ([a, b, c] ++ zs)).extract 3 n = strOfNums zs := by
  subst h
  apply Go.WideShapes.bytes_inj
  simp [strOfNums, ByteArray.data_extract]
  rw [List.take_of_length_le (by simp)]
theorem keeps_few (b f : Int) (bi fi : Bool) (k s : Int) (wd : Bool) (a : Option Addr) (len cap : Nat) (zs : List Int) (h : len < 3) (w : World) : Calls Try.prog 6 #[.agg #[.int .u8 b, .int .u8 f, .bool bi, .bool fi, .int .u8 k, .int .u8 s, .bool wd, .slice a len cap]] w fun e w' => e = .returned (.bool true) ∧ Below w.heap.size w w' := by
  have h1 : ((len : Int) < 3) := by omega
  have hA0 : Below w.heap.size w (w.alloc (.cells #[.int .u8 b, .int .u8 f, .bool bi, .bool fi, .int .u8 k, .int .u8 s, .bool wd, .slice a len cap] 24)) := (Below.refl _ _).alloc (Nat.le_refl _) _
  have hK0 := Blk.new w (#[.int .u8 b, .int .u8 f, .bool bi, .bool fi, .int .u8 k, .int .u8 s, .bool wd, .slice a len cap]).toList 24
  go_enter Try.func6, Try.ntmps6
  go_wp2_with fail
  refine (awake_is _).mono ?_
  rintro e w1 ⟨rfl, hb1⟩
  have hK1 := hK0.below hb1
  have c7 := hK1.cell 7 rfl
  go_wp2_with fail
  refine (awake_is _).mono ?_
  rintro e w2 ⟨rfl, hb2⟩
  go_wp2
  go_ret
  exact ⟨rfl, (hA0.trans (hb1.mono (by simp))).trans (hb2.mono ((hA0.trans (hb1.mono (by simp))).size))⟩
theorem keeps_long (b f : Int) (bi fi : Bool) (k s : Int) (wd : Bool) (a : Option Addr) (len cap : Nat) (zs : List Int) (h : 200 < len) (w : World) : Calls Try.prog 6 #[.agg #[.int .u8 b, .int .u8 f, .bool bi, .bool fi, .int .u8 k, .int .u8 s, .bool wd, .slice a len cap]] w fun e w' => e = .returned (.bool true) ∧ Below w.heap.size w w' := by
  have h1 : ¬ ((len : Int) < 3) := by omega
  have h2 : (200 : Int) < len := by omega
  have hA0 : Below w.heap.size w (w.alloc (.cells #[.int .u8 b, .int .u8 f, .bool bi, .bool fi, .int .u8 k, .int .u8 s, .bool wd, .slice a len cap] 24)) := (Below.refl _ _).alloc (Nat.le_refl _) _
  have hK0 := Blk.new w (#[.int .u8 b, .int .u8 f, .bool bi, .bool fi, .int .u8 k, .int .u8 s, .bool wd, .slice a len cap]).toList 24
  go_enter Try.func6, Try.ntmps6
  go_wp2_with fail
  refine (awake_is _).mono ?_
  rintro e w1 ⟨rfl, hb1⟩
  have hK1 := hK0.below hb1
  have c7 := hK1.cell 7 rfl
  go_wp2_with fail
  refine (awake_is _).mono ?_
  rintro e w2 ⟨rfl, hb2⟩
  go_wp2
  go_ret
  exact ⟨rfl, (hA0.trans (hb1.mono (by simp))).trans (hb2.mono ((hA0.trans (hb1.mono (by simp))).size))⟩
set_option maxHeartbeats 4000000 in
theorem keeps_main (b f : Int) (bi fi : Bool) (k s : Int) (wd : Bool) (a : Option Addr) (len cap : Nat) (zs : List Int) (hb0 : 0 ≤ b) (hf0 : 0 ≤ f) (hs0 : 0 ≤ s) (h3 : 3 ≤ len) (h : len ≤ 200) (w : World) (hr : Row w a len zs) : Calls Try.prog 6 #[.agg #[.int .u8 b, .int .u8 f, .bool bi, .bool fi, .int .u8 k, .int .u8 s, .bool wd, .slice a len cap]] w fun e w' => e = .returned (.bool true) ∧ Below w.heap.size w w' := by
  obtain ⟨x, rfl, -⟩ := hr.2.2 0 (by omega)
  have h1 : ¬ ((len : Int) < 3) := by omega
  have h2 : ¬ ((200 : Int) < len) := by omega
  have hb1' := nearV_lt hb0
  have hf1' := nearV_lt hf0
  have hA0 : Below w.heap.size w (w.alloc (.cells #[.int .u8 b, .int .u8 f, .bool bi, .bool fi, .int .u8 k, .int .u8 s, .bool wd, .slice (some x) len cap] 24)) := (Below.refl _ _).alloc (Nat.le_refl _) _
  have hK0 := Blk.new w (#[.int .u8 b, .int .u8 f, .bool bi, .bool fi, .int .u8 k, .int .u8 s, .bool wd, .slice (some x) len cap]).toList 24
  have HP := Lib.hid hr
  clear hr
  go_enter Try.func6, Try.ntmps6
  go_wp2_with fail
  refine (awake_is _).mono ?_
  rintro e w1 ⟨rfl, hb1⟩
  have hB1 := hA0.trans (hb1.mono (by simp))
  have hK1 := hK0.below hb1
  clear hK0 hb1 hA0
  have c0 := hK1.cell 0 rfl
  have c1 := hK1.cell 1 rfl
  have c2 := hK1.cell 2 rfl
  have c3 := hK1.cell 3 rfl
  have c4 := hK1.cell 4 rfl
  have c5 := hK1.cell 5 rfl
  have c6 := hK1.cell 6 rfl
  have c7 := hK1.cell 7 rfl
  have hn0 := nearV_nonneg (how := 255) (m := 128) hb0 (by decide)
  have hn1 := nearV_nonneg (how := 255) (m := 128) hf0 (by decide)
  have hn2 := nearV_nonneg (how := 255) (m := 8) hs0 (by decide)
  go_upto_region 4 with (first
    | (go_at_call 9; refine (near_is _ _ _ _ _ _ _ _ _ _ _ _).mono ?_; rintro e w2 ⟨rfl, hb2⟩; have hB2 := bthen hB1 hb2; have hK2 := hK1.below hb2; clear c0 c1 c2 c3 c4 c5 c6 c7 hK1)
    | (refine wpList_store_row rfl 24 (.tmp 1) (.tmp 26) rfl w.heap.size #[.int .u8 (nearV 255 128 b), .int .u8 (nearV 255 128 f), .bool bi, .bool fi, .int .u8 (nearV 255 3 k), .int .u8 (nearV 255 8 s), .bool wd, .slice (some x) len cap] rfl rfl 24 _ hK2 (by kernel_rfl) rfl (by simp [Value.oneCell']) ?_))
  have hK3 := hK2.row (#[.int .u8 (nearV 255 128 b), .int .u8 (nearV 255 128 f), .bool bi, .bool fi, .int .u8 (nearV 255 3 k), .int .u8 (nearV 255 8 s), .bool wd, .slice (some x) len cap]).toList
  have hB3 := below_row hB2 (Nat.le_refl _) #[.int .u8 (nearV 255 128 b), .int .u8 (nearV 255 128 f), .bool bi, .bool fi, .int .u8 (nearV 255 3 k), .int .u8 (nearV 255 8 s), .bool wd, .slice (some x) len cap]
  replace hK3 : Blk (w2.setRow w.heap.size #[.int .u8 (nearV 255 128 b), .int .u8 (nearV 255 128 f), .bool bi, .bool fi, .int .u8 (nearV 255 3 k), .int .u8 (nearV 255 8 s), .bool wd, .slice (some x) len cap]) w.heap.size (#[.int .u8 (nearV 255 128 b), .int .u8 (nearV 255 128 f), .bool bi, .bool fi, .int .u8 (nearV 255 3 k), .int .u8 (nearV 255 8 s), .bool wd, .slice (some x) len cap]).toList 24 := hK3
  generalize w2.setRow w.heap.size _ = w3 at *
  clear hK2 hB2 hB1 hb2
  generalize nearV 255 128 b = b at *
  generalize nearV 255 128 f = f at *
  generalize nearV 255 3 k = k at *
  generalize nearV 255 8 s = s at *
  have c4 := hK3.cell 4 rfl
  have f4 := hK3.frozen 4
  have hK4 : Blk (w3.setCell ⟨w.heap.size, 4, none⟩ (.int .u8 2)) w.heap.size [.int .u8 b, .int .u8 f, .bool bi, .bool fi, .int .u8 2, .int .u8 s, .bool wd, .slice (some x) len cap] 24 := hK3.set 4 (.int .u8 2)
  have hB4 := hB3.trans ((Fr.set1 w3 ⟨w.heap.size, 4, none⟩ (.int .u8 2)).below hB3.size (fun k hk => by rw [hk]; exact Nat.le_refl _))
  clear hK3 hB3
  go_upto_region 6 with fail
  generalize w3.setCell ⟨w.heap.size, 4, none⟩ (.int .u8 2) = w4 at *
  have c7 := hK4.cell 7 rfl
  have hzs := HP.out.2.1
  have HL : Hid ((zs.map (Value.int .u8)).length = len * 1) := by show _ = _; rw [List.length_map, HP.out.1]; omega
  have HPw := Lib.hid (row_hc (HP.out.below hB4))
  go_upto_region 7 with (refine wp_append_nil rfl (.tmp 28) (.tmp 30) rfl rfl x len cap (zs.map (.int .u8)) rfl (by omega) (by omega) HL.out HPw.out (map_one zs) ?_; intro gI cI w5 hown hgr)
  have hB5 := grown_below hgr hB4
  have hK5 := hK4.below (grown_all hgr)
  have hgI : w.heap.size < gI := by
    have := hK4.lt
    obtain ⟨_, hh | ⟨g', _, _, he, hh, _⟩⟩ := hown
    · cases hh.1
    · cases he; omega
  clear c4 f4 c7 hgr hK4 hB4 HPw
  have c7 := hK5.cell 7 rfl
  have f7 := hK5.frozen 7
  have hF6 : Fr (fun k => k = w.heap.size) w5 (w5.setCell ⟨w.heap.size, 7, none⟩ (.slice (some ⟨gI, 0, none⟩) len cI)) := Fr.set1 w5 ⟨w.heap.size, 7, none⟩ _
  have hK6 : Blk (w5.setCell ⟨w.heap.size, 7, none⟩ (.slice (some ⟨gI, 0, none⟩) len cI)) w.heap.size [.int .u8 b, .int .u8 f, .bool bi, .bool fi, .int .u8 2, .int .u8 s, .bool wd, .slice (some ⟨gI, 0, none⟩) len cI] 24 := hK5.set 7 _
  have hB6 := hB5.trans (hF6.below hB5.size (fun k hk => by rw [hk]; exact Nat.le_refl _))
  have hO6 := own_fr hown hF6 (by show ¬ (gI = w.heap.size); omega)
  clear hown hF6 hK5 hB5
  have HO6 := Lib.hid hO6
  clear hO6
  go_upto_region 8 with fail
  clear c7 f7
  generalize w5.setCell ⟨w.heap.size, 7, none⟩ (.slice (some ⟨gI, 0, none⟩) len cI) = w6 at *
  have c0 := hK6.cell 0 rfl
  have c1 := hK6.cell 1 rfl
  have c2 := hK6.cell 2 rfl
  have c3 := hK6.cell 3 rfl
  have c4 := hK6.cell 4 rfl
  have c5 := hK6.cell 5 rfl
  have c6 := hK6.cell 6 rfl
  have c7 := hK6.cell 7 rfl
  have hI6 := own_row HO6.out hzs
  have hgI6 := HO6.out.lt gI rfl
  go_wp2_with fail
  refine (uenc_own b f hn0 hn1 hb1' hf1' bi fi s wd (some ⟨gI, 0, none⟩) len cI zs w6 hI6 h3 h).mono ?_
  rintro e w7 ⟨g, c, rfl, hb7, hOp⟩
  have hB7 := bthen hB6 hb7
  have hK7 := hK6.below hb7
  have hO7 := own_fr HO6.out (Fr.of_below (S := fun _ => False) hb7) (fun h => h)
  have hg7 := (hOp.lt g rfl).1
  have hzl := HP.out.1
  have hZ : ∀ z ∈ encZ b f bi fi zs, 0 ≤ z ∧ z < 256 := encZ_ok ⟨hn0, hb1'⟩ ⟨hn1, hf1'⟩ bi fi hzs
  have hstr := (own_row hOp hZ).str (cap := c)
  clear c0 c1 c2 c3 c4 c5 c6 c7 hI6 hK6 hB6 hb7 HO6
  have HOp := Lib.hid hOp
  have HO7 := Lib.hid hO7
  clear hOp hO7
  go_upto_region 10 with fail
  have z0 := HO7.out.cellAt 0 (by omega)
  have fz0 := HO7.out.frozenAt 0
  obtain ⟨y0, hy0⟩ : ∃ z, (zs.map (Value.int .u8))[0]? = some (.int .u8 z) := ⟨_, by rw [List.getElem?_map, List.getElem?_eq_getElem (by omega)]; rfl⟩
  rw [hy0] at z0
  clear hy0 hstr
  go_upto_region 11 with fail
  have hF8 : Fr (fun k => k = gI) w7 (w7.setCell ⟨gI, 0, none⟩ (.int .u8 ((y0 + 1) % 256))) := Fr.set1 w7 ⟨gI, 0, none⟩ _
  have hO8 := own_fr HOp.out hF8 (by show ¬ (g = gI); omega)
  have hB8 := hB7.trans (hF8.below hB7.size (fun k hk => by rw [hk]; omega))
  clear z0 fz0 hF8 HO7 HOp hB7 hK7
  generalize w7.setCell ⟨gI, 0, none⟩ (.int .u8 ((y0 + 1) % 256)) = w8 at *
  have hlenZ : (encZ b f bi fi zs).length = 3 + len := by simp [encZ]; omega
  have hR8 := own_row hO8 hZ
  have hcap := own_cap hO8
  have hm8 : (encZ b f bi fi zs).getD 2 0 % 64 = (if 63 < 3 + len - 3 then 63 else ((3 + len - 3 : Nat) : Int)) := by
    rw [show (encZ b f bi fi zs).getD 2 0 = (if 63 < zs.length then 63 else (zs.length : Int)) from rfl, hzl, show 3 + len - 3 = len from by omega]
    split <;> omega
  have h68 : 6 ≤ 3 + len := by omega
  have h278 : 3 + len ≤ 276 := by omega
  have hgl := (hO8.lt g rfl).2
  have e3 : 3 + len - 3 = len := by omega
  go_wp2_with fail
  refine (udec_sig g (3 + len) c _ w8 hR8 hcap h68 h278 hm8).mono ?_
  rintro e w9 ⟨b1, f1, bi1, fi1, g2, c2, rfl, hb9, hR9, hg2⟩
  rw [e3] at hR9 ⊢
  have hR9' : Row w9 (some ⟨g2, 0, none⟩) len zs := hR9
  have hO9 := own_fr hO8 (Fr.of_below (S := fun _ => False) hb9) (fun h => h)
  have hB9 := (bthen hB8 hb9).alloc (bthen hB8 hb9).size (.cells #[.int .u8 b1, .int .u8 f1, .bool bi1, .bool fi1, .int .u8 2, .int .u8 0, .bool false, .slice (some ⟨g2, 0, none⟩) len c2] 24)
  have hO10 := hO9.alloc (.cells #[.int .u8 b1, .int .u8 f1, .bool bi1, .bool fi1, .int .u8 2, .int .u8 0, .bool false, .slice (some ⟨g2, 0, none⟩) len c2] 24)
  have hR10 := hR9'.below ((Below.refl _ _).alloc (Nat.le_refl _) (.cells #[.int .u8 b1, .int .u8 f1, .bool bi1, .bool fi1, .int .u8 2, .int .u8 0, .bool false, .slice (some ⟨g2, 0, none⟩) len c2] 24))
  have hV := Blk.new w9 (#[.int .u8 b1, .int .u8 f1, .bool bi1, .bool fi1, .int .u8 2, .int .u8 0, .bool false, .slice (some ⟨g2, 0, none⟩) len c2]).toList 24
  have hgl9 : g < w9.heap.size := (hO9.lt g rfl).2
  have hstr := hR10.str (cap := c2)
  have HO10 := Lib.hid hO10
  have HO9 := Lib.hid hO9
  have HR9 := Lib.hid hR9'
  have hB9' := bthen hB8 hb9
  clear hR9 hR9' hO9 hb9 hB8 hR8 hO8 hm8 e3
  have HR10 := Lib.hid hR10
  have HV := Lib.hid hV
  clear hO10 hR10 hV
  go_upto_region 13 with fail
  have z3 := HO10.out.cellAt 3 (by omega)
  have fz3 := HO10.out.frozenAt 3
  obtain ⟨y3, hy3⟩ : ∃ z, ((encZ b f bi fi zs).map (Value.int .u8))[3]? = some (.int .u8 z) := ⟨_, by rw [List.getElem?_map, List.getElem?_eq_getElem (by omega)]; rfl⟩
  rw [hy3] at z3
  have g3 : (3 : Int) < ((3 + len : Nat) : Int) := by omega
  clear hy3 hstr
  have hFw : Fr (fun k => k = g) w9 (w9.setCell ⟨g, 3, none⟩ (.int .u8 ((y3 + 1) % 256))) := Fr.set1 w9 ⟨g, 3, none⟩ _
  have hOw := (HO9.out.stored 3 (.int .u8 ((y3 + 1) % 256))).1
  rw [← List.map_set] at hOw
  have hRw := own_row hOw (fun z hz => by
    rcases List.mem_or_eq_of_mem_set hz with h | h
    · exact hZ z h
    · rw [h]; omega)
  have hR3 : Row (w9.setCell ⟨g, 3, none⟩ (.int .u8 ((y3 + 1) % 256))) (some ⟨g, 0, none⟩) 3 [(if bi then b + 128 else b), (if fi then f + 128 else f), (if 63 < zs.length then 63 else (zs.length : Int))] := by
    refine ⟨rfl, fun z hz => hZ z (by simp only [encZ, List.mem_append]; exact .inl hz), fun i hi => ?_⟩
    obtain ⟨y, hy, hc⟩ := hRw.2.2 i (by omega)
    refine ⟨y, hy, ?_⟩
    rw [hc]
    rcases (by omega : i = 0 ∨ i = 1 ∨ i = 2) with rfl | rfl | rfl <;> rfl
  have hR2 := HR9.out.fr hFw (by show ¬ (g2 = g); omega)
  have hc3 : (3 : Int) ≤ c := by omega
  have hst1 : (convert 22 9 (.slice (some ⟨g, 0, none⟩) 3 c)).run Try.prog ((w9.setCell ⟨g, 3, none⟩ (.int .u8 ((y3 + 1) % 256))).alloc (.cells #[.int .u8 b1, .int .u8 f1, .bool bi1, .bool fi1, .int .u8 2, .int .u8 0, .bool false, .slice (some ⟨g2, 0, none⟩) len c2] 24)).drew = .ok (.string (strOfNums [(if bi then b + 128 else b), (if fi then f + 128 else f), (if 63 < zs.length then 63 else (zs.length : Int))])) ((w9.setCell ⟨g, 3, none⟩ (.int .u8 ((y3 + 1) % 256))).alloc (.cells #[.int .u8 b1, .int .u8 f1, .bool bi1, .bool fi1, .int .u8 2, .int .u8 0, .bool false, .slice (some ⟨g2, 0, none⟩) len c2] 24)).drew := (hR3.below (((Below.refl _ _).alloc (Nat.le_refl _) (.cells #[.int .u8 b1, .int .u8 f1, .bool bi1, .bool fi1, .int .u8 2, .int .u8 0, .bool false, .slice (some ⟨g2, 0, none⟩) len c2] 24)).trans (below_drewN (Below.refl _ _) 1))).str (cap := c)
  have hst2 : (convert 22 9 (.slice (some ⟨g2, 0, none⟩) len c2)).run Try.prog ((w9.setCell ⟨g, 3, none⟩ (.int .u8 ((y3 + 1) % 256))).alloc (.cells #[.int .u8 b1, .int .u8 f1, .bool bi1, .bool fi1, .int .u8 2, .int .u8 0, .bool false, .slice (some ⟨g2, 0, none⟩) len c2] 24)).drew = .ok (.string (strOfNums zs)) ((w9.setCell ⟨g, 3, none⟩ (.int .u8 ((y3 + 1) % 256))).alloc (.cells #[.int .u8 b1, .int .u8 f1, .bool bi1, .bool fi1, .int .u8 2, .int .u8 0, .bool false, .slice (some ⟨g2, 0, none⟩) len c2] 24)).drew := (hR2.below (((Below.refl _ _).alloc (Nat.le_refl _) (.cells #[.int .u8 b1, .int .u8 f1, .bool bi1, .bool fi1, .int .u8 2, .int .u8 0, .bool false, .slice (some ⟨g2, 0, none⟩) len c2] 24)).trans (below_drewN (Below.refl _ _) 1))).str (cap := c2)
  have hBw := hB9'.trans (hFw.below hB9'.size (fun k hk => by rw [hk]; omega))
  have hBW := hBw.alloc hBw.size (.cells #[.int .u8 b1, .int .u8 f1, .bool bi1, .bool fi1, .int .u8 2, .int .u8 0, .bool false, .slice (some ⟨g2, 0, none⟩) len c2] 24)
  obtain ⟨S, hS⟩ : ∃ S, strOfNums (encZ b f bi fi zs) = S := ⟨_, rfl⟩
  have hSs : S.size = 3 + len := by rw [← hS, strOfNums_size, hlenZ]
  go_upto_region 14 with fail
  have x1 : S.extract 0 3 = strOfNums [(if bi then b + 128 else b), (if fi then f + 128 else f), (if 63 < zs.length then 63 else (zs.length : Int))] := by rw [← hS]; exact str_pre _ _ _ _
  have x2 : S.extract 3 (3 + len) = strOfNums zs := by rw [← hS]; exact str_post _ _ _ _ _ (by omega)
  have x3 : S.extract 3 S.size = strOfNums zs := by rw [hSs]; exact x2
  have h33 : (3 : Int) ≤ 3 + (len : Int) := by omega
  rw [hS]
  generalize hp3 : strOfNums [(if bi then b + 128 else b), (if fi then f + 128 else f), (if 63 < zs.length then 63 else (zs.length : Int))] = S3 at *
  generalize hp4 : strOfNums zs = S4 at *
  clear hRw hR3 hR2 hOw hFw
  go_region
  all_goals go_wp2
  all_goals go_ret
  all_goals exact ⟨rfl, below_drewN hBW 1⟩
theorem keeps_row (b f : Int) (bi fi : Bool) (k s : Int) (wd : Bool) (a : Option Addr) (len cap : Nat) (zs : List Int) (W : World) (hb0 : 0 ≤ b ∧ b ≤ 255) (hf0 : 0 ≤ f ∧ f ≤ 255) (hs0 : 0 ≤ s ∧ s ≤ 255) (hr : Row W a len zs) : Calls Try.prog 6 #[.agg #[.int .u8 b, .int .u8 f, .bool bi, .bool fi, .int .u8 k, .int .u8 s, .bool wd, .slice a len cap]] W fun e w' => e = .returned (.bool true) ∧ Below W.heap.size W w' := by
  by_cases h3 : len < 3
  · exact keeps_few b f bi fi k s wd a len cap zs h3 W
  by_cases h : 200 < len
  · exact keeps_long b f bi fi k s wd a len cap zs h W
  exact keeps_main b f bi fi k s wd a len cap zs hb0.1 hf0.1 hs0.1 (by omega) (by omega) W hr
end Go.Proofs.Ytpgalefpccgpfaa
