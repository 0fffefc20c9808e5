/-
  The walk of SetupChecks: whatever the setup and the turn, Check answers what the law reckons.
-/
import Derived.Test.YtailojidffehnaaSet
import Derived.Deep.DeepCutAuto
import Derived.Deep.RegionHeld3
import Derived.BigQuiet
import Derived.Laws.Tables
import Derived.Laws.Rows
import Derived.Deep.QuietTactic
namespace Go.Proofs.Ytailojidffehnaa
open Go.RowKit
set_option linter.unusedVariables false
set_option linter.unusedSimpArgs false

/-- A block known whole. -/
def Blk (w : World) (b : Nat) (cs : List Value) (T : TypeId) : Prop := w.heap[b]? = some (.cells cs.toArray T (0, 0))
theorem Blk.lt {w : World} {b : Nat} {cs : List Value} {T : TypeId} (h : Blk w b cs T) : b < w.heap.size := (Array.getElem?_eq_some_iff.1 h).1
theorem Blk.cell {w : World} {b : Nat} {cs : List Value} {T : TypeId} (h : Blk w b cs T) (i : Nat) {v : Value} (hi : cs[i]? = some v) : w.cell? ⟨b, i, none⟩ = some v := by
  unfold Blk at h
  simp [World.cell?, h, hi]
theorem Blk.frozen {w : World} {b : Nat} {cs : List Value} {T : TypeId} (h : Blk w b cs T) (i : Nat) : w.frozen? ⟨b, i, none⟩ = false := by
  unfold Blk at h
  simp [World.frozen?, h]
theorem Blk.set {w : World} {b : Nat} {cs : List Value} {T : TypeId} (h : Blk w b cs T) (i : Nat) (v : Value) : Blk (w.setCell ⟨b, i, none⟩ v) b (cs.set i v) T := by
  unfold Blk at *
  simp only [World.setCell, Array.getElem?_modify, h]
  simp
theorem Blk.other {w : World} {b : Nat} {cs : List Value} {T : TypeId} (h : Blk w b cs T) (a : Addr) (v : Value) (hn : b ≠ a.block) : Blk (w.setCell a v) b cs T := by
  unfold Blk at *
  rw [Below.heap_setCell _ _ _ _ hn]; exact h
theorem Blk.alloc {w : World} {b : Nat} {cs : List Value} {T : TypeId} (h : Blk w b cs T) (o : Obj) : Blk (w.alloc o) b cs T := by
  have := h.lt
  unfold Blk at *
  rw [Below.heap_alloc _ _ _ this]; exact h
theorem Blk.new (w : World) (cs : List Value) (T : TypeId) : Blk (w.alloc (.cells cs.toArray T (0, 0))) w.heap.size cs T := by
  show (w.heap.push _)[w.heap.size]? = _
  simp
theorem Blk.below {w w' : World} {b : Nat} {cs : List Value} {T : TypeId} (h : Blk w b cs T) (hb : Below w.heap.size w w') : Blk w' b cs T := by
  have := h.lt
  unfold Blk at *
  rw [hb.block _ this]; exact h

theorem Blk.row {w : World} {b : Nat} {cs : List Value} {T : TypeId} (h : Blk w b cs T) (ds : List Value) : Blk (w.setRow b ds.toArray) b ds T := setRow_heap w b cs.toArray ds.toArray T (0, 0) h
theorem below_row {B : Nat} {a w : World} (h : Below B a w) {b : Nat} (hb : B ≤ b) (ds : Array Value) : Below B a (w.setRow b ds) :=
  h.trans ⟨rfl, rfl, rfl, by simp, fun k hk => by
    simp only [World.setRow, Array.getElem?_modify]
    rw [if_neg (by omega)]⟩

theorem okT_bad2 {t : List Int} {k : Nat} {x : Int} (hx : t[k]? = some x) (hb : inB x 1 4294967296 = false) : okT (t.take (k + 1)) = false :=
  okT_bad (k := k) (by rw [List.getElem?_take]; simp [hx]) hb
theorem okT_same {t : List Int} {k : Nat} {x : Int} (hx : t[k]? = some x) (hb : inB x 1 4294967296 = true) : okT (t.take (k + 1)) = okT (t.take k) := by
  unfold okT
  rw [List.take_add_one, hx, List.all_append]
  simp [hb]

theorem checkN_iff (a b c d : Int) : checkN a b c d = true ↔ (1 ≤ a ∧ a ≤ 127) ∧ (1 ≤ b ∧ b ≤ 1048576) ∧ (1 ≤ c ∧ c ≤ 512) ∧ (273 ≤ d ∧ d ≤ 1048576) := by
  simp [checkN, inB, and_assoc]
theorem checkV_bad (a b c d : Int) (t : List Int) (h : okT t = false ∨ checkN a b c d = false) : checkV a b c d t = 1 := by
  unfold checkV; rcases h with h | h <;> rw [h] <;> simp
theorem checkV_range (a b c d : Int) (t : List Int) (h : okT t = true) (k : checkN a b c d = true) (r : t.getD 4 0 < t.getD 0 0 ∨ t.getD 6 0 ≤ t.getD 5 0) : checkV a b c d t = 10 := by
  unfold checkV; rw [h, k, if_pos rfl, if_pos rfl, if_pos r]
theorem checkV_good (a b c d : Int) (t : List Int) (h : okT t = true) (k : checkN a b c d = true) (r : ¬ (t.getD 4 0 < t.getD 0 0 ∨ t.getD 6 0 ≤ t.getD 5 0)) : checkV a b c d t = 0 := by
  unfold checkV; rw [h, k, if_pos rfl, if_pos rfl, if_neg r]

def wantT (t : List Int) : Int := if okT t = true then 0 else 1
theorem wantT_bad {t : List Int} {k : Nat} {x : Int} (hx : t[k]? = some x) (hb : inB x 1 4294967296 = false) : wantT (t.take (k + 1)) = 1 := by
  unfold wantT; rw [okT_bad2 hx hb]; rfl
theorem wantT_same {t : List Int} {k : Nat} {x : Int} (hx : t[k]? = some x) (hb : inB x 1 4294967296 = true) : wantT (t.take (k + 1)) = wantT (t.take k) := by
  unfold wantT; rw [okT_same hx hb]

set_option maxHeartbeats 8000000 in
set_option maxRecDepth 100000 in
theorem setupChecks_row (c : Bool) (n1 n2 ho oc t0 t1 t2 t3 t4 t5 t6 t7 : Int) (near : Bool) (wh v : Int) (w : World) (hw : 0 ≤ wh ∧ wh ≤ 255) :
    Calls Try.prog 12 #[.agg #[.bool c, .int .i64 n1, .int .i64 n2, .int .i64 ho, .int .i64 oc, .int .i64 t0, .int .i64 t1, .int .i64 t2, .int .i64 t3, .int .i64 t4, .int .i64 t5, .int .i64 t6, .int .i64 t7], .bool near, .int .u8 wh, .int .i64 v] w
      fun e w' => e = .returned (.bool true) ∧ Below w.heap.size w w' := by
  go_enter Try.func12, Try.ntmps12
  go_upto_if 13 with (go_at_call 28; refine (awake9_any _).mono ?_; rintro e w1 ⟨rfl, hb⟩)
  go_cut [13] (fun (_ : Value) wx => ∃ c n1 n2 ho oc t0 t1 t2 t3 t4 t5 t6 t7, Below w.heap.size w wx ∧ Blk wx w.heap.size [.bool c, .int .i64 n1, .int .i64 n2, .int .i64 ho, .int .i64 oc, .int .i64 t0, .int .i64 t1, .int .i64 t2, .int .i64 t3, .int .i64 t4, .int .i64 t5, .int .i64 t6, .int .i64 t7] 44)
  case first =>
    have hK := (Blk.new w [.bool c, .int .i64 n1, .int .i64 n2, .int .i64 ho, .int .i64 oc, .int .i64 t0, .int .i64 t1, .int .i64 t2, .int .i64 t3, .int .i64 t4, .int .i64 t5, .int .i64 t6, .int .i64 t7] 44).below hb
    have hB := bthen ((Below.refl w.heap.size w).alloc (Nat.le_refl _) _) hb
    clear hb
    cases near
    · go_wp2
      go_meet
      exact ⟨c, n1, n2, ho, oc, t0, t1, t2, t3, t4, t5, t6, t7, hB, hK⟩
    · have hc := hK.cell 0 rfl
      go_upto_region 5 with (first
        | (go_at_call 29; refine (usual_any _ _).mono ?_; rintro e w2 ⟨rfl, hb⟩; unfold usualV; replace hK := Blk.below hK hb; replace hB := bthen hB hb; clear hb hc)
        | (refine wpList_store_row rfl 44 (.tmp 4) (.tmp 16) rfl w.heap.size #[.bool c, .int .i64 8, .int .i64 300, .int .i64 16, .int .i64 600, .int .i64 600, .int .i64 12000, .int .i64 8000, .int .i64 4000, .int .i64 1200, .int .i64 100, .int .i64 4000, .int .i64 6000] rfl rfl 44 _ hK (by kernel_rfl) rfl (by simp [Value.oneCell']) ?_))
      have hK3 := hK.row [.bool c, .int .i64 8, .int .i64 300, .int .i64 16, .int .i64 600, .int .i64 600, .int .i64 12000, .int .i64 8000, .int .i64 4000, .int .i64 1200, .int .i64 100, .int .i64 4000, .int .i64 6000]
      have hB3 := below_row hB (Nat.le_refl _) #[.bool c, .int .i64 8, .int .i64 300, .int .i64 16, .int .i64 600, .int .i64 600, .int .i64 12000, .int .i64 8000, .int .i64 4000, .int .i64 1200, .int .i64 100, .int .i64 4000, .int .i64 6000]
      generalize w2.setRow w.heap.size _ = w3 at *
      clear hK hB
      have hf := hK3.frozen
      rcases (by omega : wh % 13 = 0 ∨ wh % 13 = 1 ∨ wh % 13 = 2 ∨ wh % 13 = 3 ∨ wh % 13 = 4 ∨ wh % 13 = 5 ∨ wh % 13 = 6 ∨ wh % 13 = 7 ∨ wh % 13 = 8 ∨ wh % 13 = 9 ∨ wh % 13 = 10 ∨ wh % 13 = 11 ∨ wh % 13 = 12) with h | h | h | h | h | h | h | h | h | h | h | h | h
      · have hc := hK3.cell 1 rfl
        go_wp2
        go_meet
        exact ⟨_, _, _, _, _, _, _, _, _, _, _, _, _, hB3.setCell (Nat.le_refl _) _, hK3.set 1 _⟩
      · have hc := hK3.cell 2 rfl
        go_wp2
        go_meet
        exact ⟨_, _, _, _, _, _, _, _, _, _, _, _, _, hB3.setCell (Nat.le_refl _) _, hK3.set 2 _⟩
      · have hc := hK3.cell 3 rfl
        go_wp2
        go_meet
        exact ⟨_, _, _, _, _, _, _, _, _, _, _, _, _, hB3.setCell (Nat.le_refl _) _, hK3.set 3 _⟩
      · have hc := hK3.cell 4 rfl
        go_wp2
        go_meet
        exact ⟨_, _, _, _, _, _, _, _, _, _, _, _, _, hB3.setCell (Nat.le_refl _) _, hK3.set 4 _⟩
      · have hc := hK3.cell 5 rfl
        go_wp2
        go_meet
        exact ⟨_, _, _, _, _, _, _, _, _, _, _, _, _, hB3.setCell (Nat.le_refl _) _, hK3.set 5 _⟩
      · have hc := hK3.cell 6 rfl
        go_wp2
        go_meet
        exact ⟨_, _, _, _, _, _, _, _, _, _, _, _, _, hB3.setCell (Nat.le_refl _) _, hK3.set 6 _⟩
      · have hc := hK3.cell 7 rfl
        go_wp2
        go_meet
        exact ⟨_, _, _, _, _, _, _, _, _, _, _, _, _, hB3.setCell (Nat.le_refl _) _, hK3.set 7 _⟩
      · have hc := hK3.cell 8 rfl
        go_wp2
        go_meet
        exact ⟨_, _, _, _, _, _, _, _, _, _, _, _, _, hB3.setCell (Nat.le_refl _) _, hK3.set 8 _⟩
      · have hc := hK3.cell 9 rfl
        go_wp2
        go_meet
        exact ⟨_, _, _, _, _, _, _, _, _, _, _, _, _, hB3.setCell (Nat.le_refl _) _, hK3.set 9 _⟩
      · have hc := hK3.cell 10 rfl
        go_wp2
        go_meet
        exact ⟨_, _, _, _, _, _, _, _, _, _, _, _, _, hB3.setCell (Nat.le_refl _) _, hK3.set 10 _⟩
      · have hc := hK3.cell 11 rfl
        go_wp2
        go_meet
        exact ⟨_, _, _, _, _, _, _, _, _, _, _, _, _, hB3.setCell (Nat.le_refl _) _, hK3.set 11 _⟩
      · have hc := hK3.cell 12 rfl
        go_wp2
        go_meet
        exact ⟨_, _, _, _, _, _, _, _, _, _, _, _, _, hB3.setCell (Nat.le_refl _) _, hK3.set 12 _⟩
      · have hc := hK3.cell 5 rfl
        go_wp2
        go_meet
        exact ⟨_, _, _, _, _, _, _, _, _, _, _, _, _, hB3.setCell (Nat.le_refl _) _, hK3.set 5 _⟩
  case rest =>
    clear hb
    obtain ⟨d, m1, m2, mh, mo, s0, s1, s2, s3, s4, s5, s6, s7, hB, hK⟩ := hcut

    go_wp2
    have hT : ∀ k : Nat, ∀ x, ([s0, s1, s2, s3, s4, s5, s6, s7] : List Int)[k]? = some x → wc.cell? ⟨w.heap.size, 5 + k, none⟩ = some (.int .i64 x) := by
      intro k x hx
      refine hK.cell (5 + k) ?_
      have : k < 8 := by have := (List.getElem?_eq_some_iff.1 hx).1; simpa using this
      have hk8 : k = 0 ∨ k = 1 ∨ k = 2 ∨ k = 3 ∨ k = 4 ∨ k = 5 ∨ k = 6 ∨ k = 7 := by omega
      rcases hk8 with rfl | rfl | rfl | rfl | rfl | rfl | rfl | rfl <;> (simp at hx; subst hx; rfl)
    have HT := Lib.hid hT
    clear hT
    go_loop [9, 10] (fun a i => ∃ k : Nat, k ≤ 8 ∧ i = .int .i64 k ∧ a = .int .i64 (wantT (([s0, s1, s2, s3, s4, s5, s6, s7] : List Int).take k))) (fun _ i => 8 - (intOf i).toNat)
    case atStart => exact ⟨0, by omega, rfl, rfl⟩
    case round =>
      obtain ⟨k, hk, rfl, rfl⟩ := hrel
      by_cases h8 : k = 8
      · subst h8
        have hge : decide (((8 : Nat) : Int) < 8) = false := by decide
        obtain ⟨c1, c2, c3, c4, c5, c9, c10, c11⟩ := (⟨hK.cell 1 rfl, hK.cell 2 rfl, hK.cell 3 rfl, hK.cell 4 rfl, hK.cell 5 rfl, hK.cell 9 rfl, hK.cell 10 rfl, hK.cell 11 rfl⟩ : _ ∧ _ ∧ _ ∧ _ ∧ _ ∧ _ ∧ _ ∧ _)
        have hK := Lib.hid hK
        clear HT
        go_upto_region 21 with fail
        go_cut [95] from 58 to 94 (fun q wx => q = .bool (!checkN m1 m2 mh mo) ∧ wx = wc)
        case first =>
          rcases (by omega : m1 < 1 ∨ (1 ≤ m1 ∧ 127 < m1) ∨ ((1 ≤ m1 ∧ m1 ≤ 127) ∧ m2 < 1) ∨ ((1 ≤ m1 ∧ m1 ≤ 127) ∧ 1 ≤ m2 ∧ 1048576 < m2) ∨ ((1 ≤ m1 ∧ m1 ≤ 127) ∧ (1 ≤ m2 ∧ m2 ≤ 1048576) ∧ mh < 1) ∨ ((1 ≤ m1 ∧ m1 ≤ 127) ∧ (1 ≤ m2 ∧ m2 ≤ 1048576) ∧ 1 ≤ mh ∧ 512 < mh)
            ∨ ((1 ≤ m1 ∧ m1 ≤ 127) ∧ (1 ≤ m2 ∧ m2 ≤ 1048576) ∧ (1 ≤ mh ∧ mh ≤ 512) ∧ mo < 273) ∨ ((1 ≤ m1 ∧ m1 ≤ 127) ∧ (1 ≤ m2 ∧ m2 ≤ 1048576) ∧ (1 ≤ mh ∧ mh ≤ 512) ∧ 273 ≤ mo ∧ 1048576 < mo) ∨ ((1 ≤ m1 ∧ m1 ≤ 127) ∧ (1 ≤ m2 ∧ m2 ≤ 1048576) ∧ (1 ≤ mh ∧ mh ≤ 512) ∧ 273 ≤ mo ∧ mo ≤ 1048576)) with g | g | g | g | g | g | g | g | g
          all_goals
            go_wp2
            go_meet
            exact ⟨congrArg Value.bool (by first | (unfold checkN inB; simp; omega) | (cases h : checkN m1 m2 mh mo <;> first | rfl | (simp; omega) | (exfalso; have := (checkN_iff _ _ _ _).1 h; omega) | (exfalso; rw [← Bool.not_eq_true] at h; exact h ((checkN_iff _ _ _ _).2 (by omega))))), rfl⟩
        case rest =>
          obtain ⟨rfl, rfl⟩ := hcut
          have hok : wantT [s0, s1, s2, s3, s4, s5, s6, s7] = 0 ∧ okT [s0, s1, s2, s3, s4, s5, s6, s7] = true ∨ wantT [s0, s1, s2, s3, s4, s5, s6, s7] = 1 ∧ okT [s0, s1, s2, s3, s4, s5, s6, s7] = false := by
            unfold wantT
            cases okT [s0, s1, s2, s3, s4, s5, s6, s7] <;> simp
          obtain ⟨c0, c6, c7, c8, c12⟩ := (⟨hK.out.cell 0 rfl, hK.out.cell 6 rfl, hK.out.cell 7 rfl, hK.out.cell 8 rfl, hK.out.cell 12 rfl⟩ : _ ∧ _ ∧ _ ∧ _ ∧ _)
          cases hn : checkN m1 m2 mh mo
          · have hv := checkV_bad m1 m2 mh mo [s0, s1, s2, s3, s4, s5, s6, s7] (.inr hn)
            clear hok
            go_wp2_with fail
            refine (check_any _ _ _ _ _ _ _ _ _ _ _ _ _ _).mono ?_
            rintro e w' ⟨rfl, hb⟩
            replace hB := bthen hB hb
            clear hb
            go_wp2
            go_ret
            exact ⟨rfl, hB⟩
          · rcases hok with ⟨hwt, hok⟩ | ⟨hwt, hok⟩
            · by_cases r : s4 < s0
              · have hv := checkV_range m1 m2 mh mo [s0, s1, s2, s3, s4, s5, s6, s7] hok hn (.inl r)
                go_wp2_with fail
                refine (check_any _ _ _ _ _ _ _ _ _ _ _ _ _ _).mono ?_
                rintro e w' ⟨rfl, hb⟩
                replace hB := bthen hB hb
                clear hb
                go_wp2
                go_ret
                exact ⟨rfl, hB⟩
              · by_cases r2 : s6 ≤ s5
                · have hv := checkV_range m1 m2 mh mo [s0, s1, s2, s3, s4, s5, s6, s7] hok hn (.inr r2)
                  go_wp2_with fail
                  refine (check_any _ _ _ _ _ _ _ _ _ _ _ _ _ _).mono ?_
                  rintro e w' ⟨rfl, hb⟩
                  replace hB := bthen hB hb
                  clear hb
                  go_wp2
                  go_ret
                  exact ⟨rfl, hB⟩
                · have hv := checkV_good m1 m2 mh mo [s0, s1, s2, s3, s4, s5, s6, s7] hok hn (by simp; omega)
                  go_wp2_with fail
                  refine (check_any _ _ _ _ _ _ _ _ _ _ _ _ _ _).mono ?_
                  rintro e w' ⟨rfl, hb⟩
                  replace hB := bthen hB hb
                  clear hb
                  go_wp2
                  go_ret
                  exact ⟨rfl, hB⟩
            · have hv := checkV_bad m1 m2 mh mo [s0, s1, s2, s3, s4, s5, s6, s7] (.inl hok)
              go_wp2_with fail
              refine (check_any _ _ _ _ _ _ _ _ _ _ _ _ _ _).mono ?_
              rintro e w' ⟨rfl, hb⟩
              replace hB := bthen hB hb
              clear hb
              go_wp2
              go_ret
              exact ⟨rfl, hB⟩
      · obtain ⟨x, hx⟩ : ∃ x, [s0, s1, s2, s3, s4, s5, s6, s7][k]? = some x := ⟨_, List.getElem?_eq_getElem (by simp; omega)⟩
        have hc := HT.out k x hx
        have hlt : decide ((k : Int) < 8) = true := by simp; omega
        have hx := Lib.hid hx
        cases hb : inB x 1 4294967296
        · have hn := Lib.hid (wantT_bad hx.out hb)
          have hb := Lib.hid hb
          rcases (by have := hb.out; simp [inB] at this; omega : x < 1 ∨ 1 ≤ x ∧ 4294967296 < x) with g | g
          · go_wp2
            exact ⟨⟨k + 1, by omega, by go_num, by rw [hn.out]⟩, by simp [intOf]; omega⟩
          · go_wp2
            exact ⟨⟨k + 1, by omega, by go_num, by rw [hn.out]⟩, by simp [intOf]; omega⟩
        · have hn := Lib.hid (wantT_same hx.out hb)
          have g := (inB_iff _ _ _).1 hb
          have hb := Lib.hid hb
          go_wp2
          exact ⟨⟨k + 1, by omega, by go_num, by rw [hn.out]⟩, by simp [intOf]; omega⟩
end Go.Proofs.Ytailojidffehnaa
