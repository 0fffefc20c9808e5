/-
  Units: as they come back.
-/
import Derived.Test.YtpgalefpccgpfaaUnitRE
namespace Go.Proofs.Ytpgalefpccgpfaa
open Go.RowKit
set_option linter.unusedVariables false
set_option linter.unusedSimpArgs false

def DecAt (a : Option Addr) (w : World) : DecT → Ending → World → Prop
  | (b, f, bi, fi, k, s, wd, er, ys), e, w' => ∃ x m c, e = .returned (.tuple #[.agg #[.int .u8 b, .int .u8 f, .bool bi, .bool fi, .int .u8 k, .int .u8 s, .bool wd, .slice x m c], .int .i64 er]) ∧ Below w.heap.size w w' ∧ Row w' x m ys ∧ m ≤ 276 ∧ ∀ y, x = some y → ∃ z, a = some z ∧ y.block = z.block
theorem rdec_at (a : Option Addr) (len cap : Nat) (zs : List Int) (w : World) (hr : Row w a len zs) (hcap : len ≤ cap) :
    Calls Try.prog 17 #[.slice a len cap] w (DecAt a w (decAll zs)) := by
  have hl := hr.1
  by_cases h3 : len < 3
  · rw [show decAll zs = (0, 0, false, false, 0, 0, false, 5, []) from by unfold decAll; rw [if_pos (by omega)]]
    refine (rdec_short a len cap w h3).mono ?_
    rintro e w' ⟨rfl, hB⟩
    exact ⟨none, 0, 0, rfl, hB, row_nil _, by decide, fun y hy => by cases hy⟩
  by_cases h276 : 276 < len
  · rw [show decAll zs = (0, 0, false, false, 0, 0, false, 6, []) from by unfold decAll; rw [if_neg (by omega), if_pos (by omega)]]
    refine (rdec_long a len cap w h276).mono ?_
    rintro e w' ⟨rfl, hB⟩
    exact ⟨none, 0, 0, rfl, hB, row_nil _, by decide, fun y hy => by cases hy⟩
  obtain ⟨x, rfl, c0⟩ := hr.2.2 0 (by omega)
  obtain ⟨_, hx, c1⟩ := hr.2.2 1 (by omega)
  cases hx
  obtain ⟨_, hx, c2⟩ := hr.2.2 2 (by omega)
  cases hx
  have bnd : ∀ i, i < len → 0 ≤ zs.getD i 0 ∧ zs.getD i 0 < 256 := fun i hi => by
    rw [List.getD_eq_getElem?_getD, List.getElem?_eq_getElem (by omega)]
    exact hr.2.1 _ (List.getElem_mem _)
  have b0 := bnd 0 (by omega)
  have b1 := bnd 1 (by omega)
  have b2 := bnd 2 (by omega)
  have hd := hr.drop3 (by omega)
  have key : decAll zs = if zs.getD 2 0 % 64 ≠ (if 63 < len - 3 then 63 else ((len - 3 : Nat) : Int)) then (0, 0, false, false, 0, 0, false, 4, [])
      else if len = 3 then (zs.getD 0 0 % 128, zs.getD 1 0 % 128, decide (128 ≤ zs.getD 0 0), decide (128 ≤ zs.getD 1 0), 0, 0, false, 0, [])
      else if len = 4 then (zs.getD 0 0 % 128, zs.getD 1 0 % 128, decide (128 ≤ zs.getD 0 0), decide (128 ≤ zs.getD 1 0), 1, zs.getD 3 0 % 8, false, 0, [])
      else if len = 5 then (zs.getD 0 0 % 128, zs.getD 1 0 % 128, decide (128 ≤ zs.getD 0 0), decide (128 ≤ zs.getD 1 0), 1, zs.getD 3 0 % 8, true, 0, [])
      else (zs.getD 0 0 % 128, zs.getD 1 0 % 128, decide (128 ≤ zs.getD 0 0), decide (128 ≤ zs.getD 1 0), 2, 0, false, 0, zs.drop 3) := by
    unfold decAll
    rw [if_neg (by omega), if_neg (by omega), hl]
  rw [key]
  clear key
  by_cases hm : zs.getD 2 0 % 64 = (if 63 < len - 3 then 63 else ((len - 3 : Nat) : Int))
  case neg =>
    rw [if_pos hm]
    by_cases hk : 63 < len - 3
    · rw [if_pos hk] at hm
      refine (rdec_form_b x len cap _ _ _ w (by omega) (by omega) hcap c0 c1 c2 b0 b1 b2 hk hm).mono ?_
      rintro e w' ⟨rfl, hB⟩
      exact ⟨none, 0, 0, rfl, hB, row_nil _, by decide, fun y hy => by cases hy⟩
    · rw [if_neg hk] at hm
      refine (rdec_form_a x len cap _ _ _ w (by omega) (by omega) hcap c0 c1 c2 b0 b1 b2 hk (by omega)).mono ?_
      rintro e w' ⟨rfl, hB⟩
      exact ⟨none, 0, 0, rfl, hB, row_nil _, by decide, fun y hy => by cases hy⟩
  rw [if_neg (fun h => h hm)]
  by_cases l3 : len = 3
  · rw [if_pos l3]
    rw [if_neg (by omega)] at hm
    refine (rdec_0 x len cap _ _ _ w (by omega) (by omega) hcap c0 c1 c2 b0 b1 b2 l3 (by omega)).mono ?_
    rintro e w' ⟨rfl, hB⟩
    exact ⟨none, 0, 0, by rw [two127, two127], hB, row_nil _, by decide, fun y hy => by cases hy⟩
  rw [if_neg l3]
  obtain ⟨_, hx, c3⟩ := hr.2.2 3 (by omega)
  cases hx
  have b3 := bnd 3 (by omega)
  by_cases l4 : len = 4
  · rw [if_pos l4]
    rw [if_neg (by omega)] at hm
    refine (rdec_1 x len cap _ _ _ w (by omega) (by omega) hcap c0 c1 c2 b0 b1 b2 _ c3 b3 l4 (by omega)).mono ?_
    rintro e w' ⟨rfl, hB⟩
    exact ⟨none, 0, 0, by rw [two127, two127], hB, row_nil _, by decide, fun y hy => by cases hy⟩
  rw [if_neg l4]
  by_cases l5 : len = 5
  · rw [if_pos l5]
    rw [if_neg (by omega)] at hm
    refine (rdec_2 x len cap _ _ _ w (by omega) (by omega) hcap c0 c1 c2 b0 b1 b2 _ c3 b3 l5 (by omega)).mono ?_
    rintro e w' ⟨rfl, hB⟩
    exact ⟨none, 0, 0, by rw [two127, two127], hB, row_nil _, by decide, fun y hy => by cases hy⟩
  rw [if_neg l5]
  by_cases hk : 63 < len - 3
  · rw [if_pos hk] at hm
    refine (rdec_more_b x len cap _ _ _ w (by omega) (by omega) hcap c0 c1 c2 b0 b1 b2 (by omega) hk hm).mono ?_
    rintro e w' ⟨rfl, hB⟩
    exact ⟨_, _, _, by rw [two127, two127], hB, hd.below hB, by omega, fun y hy => ⟨_, rfl, by cases hy; rfl⟩⟩
  · rw [if_neg hk] at hm
    refine (rdec_more_a x len cap _ _ _ w (by omega) (by omega) hcap c0 c1 c2 b0 b1 b2 (by omega) hk (by omega)).mono ?_
    rintro e w' ⟨rfl, hB⟩
    exact ⟨_, _, _, by rw [two127, two127], hB, hd.below hB, by omega, fun y hy => ⟨_, rfl, by cases hy; rfl⟩⟩
theorem dec_three (zs : List Int) : ∃ r : DecT, (∀ a len cap w, Row w a len zs → len ≤ cap → Calls Try.prog 16 #[.slice a len cap] w (DecPost w r)) ∧ (∀ a len cap w, Row w a len zs → len ≤ cap → Calls Try.prog 17 #[.slice a len cap] w (DecAt a w r)) :=
  ⟨decAll zs, fun a len cap w hr hc => (dec_all a len cap zs w hr hc).1, fun a len cap w hr hc => rdec_at a len cap zs w hr hc⟩
theorem right_zero {b f k s : Int} {len : Nat} (h : rightV b f k s len = 0) : b ≤ 127 ∧ f ≤ 127 ∧ k ≤ 2 ∧ (k = 1 → s ≤ 7) ∧ (k = 2 → 3 ≤ len ∧ len ≤ 273) := by
  unfold rightV at h
  split at h
  · cases h
  · split at h
    · cases h
    · split at h
      · cases h
      · omega
theorem renc_is (b f : Int) (hb0 : 0 ≤ b) (hf0 : 0 ≤ f) (bi fi : Bool) (k s : Int) (hs0 : 0 ≤ s) (wd : Bool) (a : Option Addr) (len cap : Nat) (zs : List Int) (w : World) (hr : Row w a len zs) (hl : len ≤ 300) (h : rightV b f k s len = 0) :
    Calls Try.prog 18 #[.agg #[.int .u8 b, .int .u8 f, .bool bi, .bool fi, .int .u8 k, .int .u8 s, .bool wd, .slice a len cap]] w (REnc w b f bi fi (bodyZ k s wd zs)) := by
  obtain ⟨hb1, hf1, -, h1, h2⟩ := right_zero h
  unfold bodyZ
  by_cases k1 : k = 1
  · subst k1
    have hs1 := h1 rfl
    rw [if_pos rfl]
    cases bi <;> cases fi <;> cases wd
    · exact renc_link_fff b f hb0 hb1 hf0 hf1 s hs0 hs1 a len cap w
    · exact renc_link_fft b f hb0 hb1 hf0 hf1 s hs0 hs1 a len cap w
    · exact renc_link_ftf b f hb0 hb1 hf0 hf1 s hs0 hs1 a len cap w
    · exact renc_link_ftt b f hb0 hb1 hf0 hf1 s hs0 hs1 a len cap w
    · exact renc_link_tff b f hb0 hb1 hf0 hf1 s hs0 hs1 a len cap w
    · exact renc_link_tft b f hb0 hb1 hf0 hf1 s hs0 hs1 a len cap w
    · exact renc_link_ttf b f hb0 hb1 hf0 hf1 s hs0 hs1 a len cap w
    · exact renc_link_ttt b f hb0 hb1 hf0 hf1 s hs0 hs1 a len cap w
  rw [if_neg k1]
  by_cases k2 : k = 2
  · subst k2
    have hl0 := h2 rfl
    rw [if_pos rfl]
    by_cases hk : 63 < len
    · cases bi <;> cases fi
      · exact renc_sig_ff1 b f hb0 hb1 hf0 hf1 s wd a len cap zs w (by omega) hl hk hr
      · exact renc_sig_ft1 b f hb0 hb1 hf0 hf1 s wd a len cap zs w (by omega) hl hk hr
      · exact renc_sig_tf1 b f hb0 hb1 hf0 hf1 s wd a len cap zs w (by omega) hl hk hr
      · exact renc_sig_tt1 b f hb0 hb1 hf0 hf1 s wd a len cap zs w (by omega) hl hk hr
    · cases bi <;> cases fi
      · exact renc_sig_ff0 b f hb0 hb1 hf0 hf1 s wd a len cap zs w (by omega) hl hk hr
      · exact renc_sig_ft0 b f hb0 hb1 hf0 hf1 s wd a len cap zs w (by omega) hl hk hr
      · exact renc_sig_tf0 b f hb0 hb1 hf0 hf1 s wd a len cap zs w (by omega) hl hk hr
      · exact renc_sig_tt0 b f hb0 hb1 hf0 hf1 s wd a len cap zs w (by omega) hl hk hr
  rw [if_neg k2]
  cases bi <;> cases fi
  · exact renc_fill_ff b f hb0 hb1 hf0 hf1 k s k1 k2 wd a len cap w
  · exact renc_fill_ft b f hb0 hb1 hf0 hf1 k s k1 k2 wd a len cap w
  · exact renc_fill_tf b f hb0 hb1 hf0 hf1 k s k1 k2 wd a len cap w
  · exact renc_fill_tt b f hb0 hb1 hf0 hf1 k s k1 k2 wd a len cap w

theorem or128 (n : Int) (h0 : 0 ≤ n) (h1 : n ≤ 127) : bits .or .u8 (n % 128) 128 = n + 128 := by
  have h : ∀ m : Fin 128, bits .or .u8 ((m.val : Int) % 128) 128 = (m.val : Int) + 128 := by decide +kernel
  have := h ⟨n.toNat, by omega⟩
  simpa [Int.toNat_of_nonneg h0] using this
theorem bitV_is (n : Int) (h0 : 0 ≤ n) (h1 : n ≤ 127) (o : Bool) : bitV n o = if o then n + 128 else n := by
  unfold bitV
  cases o
  · simp; omega
  · simp [or128 n h0 h1]
theorem bodyV_map (k s : Int) (wd : Bool) (zs : List Int) : bodyV k s wd (zs.map (.int .u8)) = (bodyZ k s wd zs).map (.int .u8) := by
  unfold bodyV bodyZ
  split
  · split <;> rfl
  · split <;> rfl
theorem encV_map {b f : Int} (hb0 : 0 ≤ b) (hb1 : b ≤ 127) (hf0 : 0 ≤ f) (hf1 : f ≤ 127) (bi fi : Bool) (ys : List Int) : encV b f bi fi (ys.map (.int .u8)) = (encZ b f bi fi ys).map (.int .u8) := by
  unfold encV encZ
  rw [bitV_is b hb0 hb1, bitV_is f hf0 hf1]
  simp
theorem bodyZ_ok {k s : Int} (hs0 : 0 ≤ s) (h1 : k = 1 → s ≤ 7) (wd : Bool) {zs : List Int} (h : ∀ z ∈ zs, 0 ≤ z ∧ z < 256) : ∀ z ∈ bodyZ k s wd zs, 0 ≤ z ∧ z < 256 := by
  intro z hz
  unfold bodyZ at hz
  split at hz
  · rename_i h
    have := h1 h
    split at hz <;> simp at hz <;> omega
  · split at hz
    · exact h z hz
    · cases hz
theorem bodyZ_len {k s : Int} {wd : Bool} {zs : List Int} : (bodyZ k s wd zs).length ≤ zs.length + 2 := by
  unfold bodyZ
  split
  · split <;> simp
  · split <;> simp
def UEnc (w : World) (Z : List Int) (e : Ending) (w' : World) : Prop := ∃ g c n, e = .returned (.tuple #[.slice (some ⟨g, 0, none⟩) n c, .int .i64 0]) ∧ Below w.heap.size w w' ∧ n ≤ c ∧ Row w' (some ⟨g, 0, none⟩) n Z ∧ n ≤ 305
theorem uenc_is (b f : Int) (hb0 : 0 ≤ b) (hf0 : 0 ≤ f) (bi fi : Bool) (k s : Int) (hs0 : 0 ≤ s) (wd : Bool) (a : Option Addr) (len cap : Nat) (zs : List Int) (w : World) (hr : Row w a len zs) (hl : len ≤ 300) (h : rightV b f k s len = 0) :
    Calls Try.prog 10 #[.agg #[.int .u8 b, .int .u8 f, .bool bi, .bool fi, .int .u8 k, .int .u8 s, .bool wd, .slice a len cap]] w (UEnc w (encZ b f bi fi (bodyZ k s wd zs))) := by
  obtain ⟨hb1, hf1, -, h1, h2⟩ := right_zero h
  refine (encode_is b f hb0 hf0 bi fi k s wd a len cap (zs.map (.int .u8)) w (fun e => hr.rowv (by have := h2 e; omega)) h).mono ?_
  rintro e w' ⟨v, rfl, hown, hB⟩
  obtain ⟨g, c, rfl, -, -⟩ := hown.form (by omega)
  rw [bodyV_map, encV_map hb0 hb1 hf0 hf1, List.length_map] at hown
  have hbl := bodyZ_len (k := k) (s := s) (wd := wd) (zs := zs)
  have hzl := hr.1
  rw [bodyV_map, List.length_map]
  exact ⟨g, c, _, rfl, hB, own_cap hown, own_row hown (encZ_ok ⟨hb0, hb1⟩ ⟨hf0, hf1⟩ bi fi (bodyZ_ok hs0 h1 wd hr.2.1)), by omega⟩

def PlainPost (w : World) : DecT → Ending → World → Prop
  | (b, f, bi, fi, k, s, wd, er, ys), e, w' => ∃ x m c, e = .returned (.agg #[.int .u8 b, .int .u8 f, .bool bi, .bool fi, .int .u8 k, .int .u8 s, .bool wd, .slice x m c]) ∧ Below w.heap.size w w' ∧ Row w' x m ys ∧ m ≤ 276
set_option maxHeartbeats 1000000 in
theorem plain_is (b f : Int) (hb0 : 0 ≤ b) (hf0 : 0 ≤ f) (bi fi : Bool) (k s : Int) (hs0 : 0 ≤ s) (wd : Bool) (a : Option Addr) (len cap : Nat) (zs : List Int) (w : World) (hr : Row w a len zs) (hl : len ≤ 300) (h : rightV b f k s len = 0) (r : DecT)
    (hD : ∀ a len cap w, Row w a len (encZ b f bi fi (bodyZ k s wd zs)) → len ≤ cap → Calls Try.prog 17 #[.slice a len cap] w (DecAt a w r)) :
    Calls Try.prog 19 #[.agg #[.int .u8 b, .int .u8 f, .bool bi, .bool fi, .int .u8 k, .int .u8 s, .bool wd, .slice a len cap]] w (PlainPost w r) := by
  obtain ⟨b1, f1, bi1, fi1, k1, s1, wd1, er, ys⟩ := r
  have hA : Below w.heap.size w ((w.alloc (.cells #[.int .u8 b, .int .u8 f, .bool bi, .bool fi, .int .u8 k, .int .u8 s, .bool wd, .slice a len cap] 24)).alloc (.cells #[.int .u8 0, .int .u8 0, .bool false, .bool false, .int .u8 0, .int .u8 0, .bool false, .slice none 0 0] 24)) := ((Below.refl _ _).alloc (Nat.le_refl _) _).alloc (by simp) _
  have hres : Blk ((w.alloc (.cells #[.int .u8 b, .int .u8 f, .bool bi, .bool fi, .int .u8 k, .int .u8 s, .bool wd, .slice a len cap] 24)).alloc (.cells #[.int .u8 0, .int .u8 0, .bool false, .bool false, .int .u8 0, .int .u8 0, .bool false, .slice none 0 0] 24)) (w.heap.size + 1) [.int .u8 0, .int .u8 0, .bool false, .bool false, .int .u8 0, .int .u8 0, .bool false, .slice none 0 0] 24 := by
    have := Blk.new (w.alloc (.cells #[.int .u8 b, .int .u8 f, .bool bi, .bool fi, .int .u8 k, .int .u8 s, .bool wd, .slice a len cap] 24)) [.int .u8 0, .int .u8 0, .bool false, .bool false, .int .u8 0, .int .u8 0, .bool false, .slice none 0 0] 24
    rw [World.size_alloc] at this
    exact this
  have HR := Lib.hid (hr.below hA)
  have HD := Lib.hid hD
  have HH := Lib.hid h
  clear hr hD h
  go_enter Try.func19, Try.ntmps19
  go_wp2_with fail
  refine (renc_is b f hb0 hf0 bi fi k s hs0 wd a len cap zs _ HR.out hl HH.out).mono ?_
  rintro e w1 ⟨g, c, rfl, hb1, hgc, hgb, hR1⟩
  have hB1 := bthen hA hb1
  have hres1 := hres.below hb1
  clear hres hb1 hA HR
  go_wp2_with fail
  refine (HD.out _ _ _ _ hR1 hgc).mono ?_
  rintro e w2 ⟨x, m, c2, rfl, hb2, hR2, hm, hxb⟩
  have hB2 := (bthen hB1 hb2).alloc (bthen hB1 hb2).size (.cells #[.int .u8 b1, .int .u8 f1, .bool bi1, .bool fi1, .int .u8 k1, .int .u8 s1, .bool wd1, .slice x m c2] 24)
  have hres2 := (hres1.below hb2).alloc (.cells #[.int .u8 b1, .int .u8 f1, .bool bi1, .bool fi1, .int .u8 k1, .int .u8 s1, .bool wd1, .slice x m c2] 24)
  have hR3 := hR2.below ((Below.refl _ _).alloc (Nat.le_refl _) (.cells #[.int .u8 b1, .int .u8 f1, .bool bi1, .bool fi1, .int .u8 k1, .int .u8 s1, .bool wd1, .slice x m c2] 24))
  clear hB1 hres1 hb2 hR1 hR2
  go_wp2_with (refine wpList_store_row rfl 24 (.tmp 2) (.tmp 11) rfl (w.heap.size + 1) #[.int .u8 b1, .int .u8 f1, .bool bi1, .bool fi1, .int .u8 k1, .int .u8 s1, .bool wd1, .slice x m c2] rfl rfl 24 _ hres2 (by kernel_rfl) rfl (by simp [Value.oneCell']) ?_)
  have hres3 := hres2.row [.int .u8 b1, .int .u8 f1, .bool bi1, .bool fi1, .int .u8 k1, .int .u8 s1, .bool wd1, .slice x m c2]
  have hB3 := below_row hB2 (Nat.le_succ _) #[.int .u8 b1, .int .u8 f1, .bool bi1, .bool fi1, .int .u8 k1, .int .u8 s1, .bool wd1, .slice x m c2]
  have hR4 : Row (((w2.alloc (.cells #[.int .u8 b1, .int .u8 f1, .bool bi1, .bool fi1, .int .u8 k1, .int .u8 s1, .bool wd1, .slice x m c2] 24))).setRow (w.heap.size + 1) #[.int .u8 b1, .int .u8 f1, .bool bi1, .bool fi1, .int .u8 k1, .int .u8 s1, .bool wd1, .slice x m c2]) x m ys := by
    cases x with
    | none =>
      refine ⟨hR3.1, hR3.2.1, fun i hi => ?_⟩
      obtain ⟨y, hy, _⟩ := hR3.2.2 i hi
      cases hy
    | some y =>
      obtain ⟨z, hz, hyz⟩ := hxb y rfl
      cases hz
      simp only [World.size_alloc] at hgb
      exact hR3.fr (Fr.row1 _ _ _) (by show ¬ (y.block = w.heap.size + 1); rw [hyz]; show ¬ (g = _); omega)
  replace hres3 : Blk ((w2.alloc (.cells #[.int .u8 b1, .int .u8 f1, .bool bi1, .bool fi1, .int .u8 k1, .int .u8 s1, .bool wd1, .slice x m c2] 24)).setRow (w.heap.size + 1) #[.int .u8 b1, .int .u8 f1, .bool bi1, .bool fi1, .int .u8 k1, .int .u8 s1, .bool wd1, .slice x m c2]) (w.heap.size + 1) [.int .u8 b1, .int .u8 f1, .bool bi1, .bool fi1, .int .u8 k1, .int .u8 s1, .bool wd1, .slice x m c2] 24 := hres3
  generalize (w2.alloc (.cells #[.int .u8 b1, .int .u8 f1, .bool bi1, .bool fi1, .int .u8 k1, .int .u8 s1, .bool wd1, .slice x m c2] 24)).setRow (w.heap.size + 1) #[.int .u8 b1, .int .u8 f1, .bool bi1, .bool fi1, .int .u8 k1, .int .u8 s1, .bool wd1, .slice x m c2] = w8 at *
  have r0 := hres3.cell 0 rfl
  have r1 := hres3.cell 1 rfl
  have r2 := hres3.cell 2 rfl
  have r3 := hres3.cell 3 rfl
  have r4 := hres3.cell 4 rfl
  have r5 := hres3.cell 5 rfl
  have r6 := hres3.cell 6 rfl
  have r7 := hres3.cell 7 rfl
  refine bodyPost_ret (v := .agg #[.int .u8 b1, .int .u8 f1, .bool bi1, .bool fi1, .int .u8 k1, .int .u8 s1, .bool wd1, .slice x m c2]) (by simp [results, Try.results19, go_sem, r0, r1, r2, r3, r4, r5, r6, r7]) rfl ?_
  exact ⟨x, m, c2, rfl, hB3, hR4, hm⟩
end Go.Proofs.Ytpgalefpccgpfaa
