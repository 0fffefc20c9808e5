/-
  What a hold tells, held against the reference's side.
-/
import Derived.Test.YtadheikcgdhcdaaHpR
import Derived.Test.YtadheikcgdhcdaaRq
namespace Go.Proofs.Ytadheikcgdhcdaa
open Go.RowKit Go.Sort
set_option linter.unusedVariables false
set_option linter.unusedSimpArgs false

theorem octs_app (a b : List (List Int)) : octs (a ++ b) = octs a + octs b := by simp [octs]
theorem rg_same {f : FuncId} {args : Array Value} {w : World} {d : Nat} {os : Array Obj} {v : Value} (h : Calls Try.prog f args (grow (redrawn w d) os) fun e w' => e = .returned v ∧ w' = grow (redrawn w d) os) : Calls Try.prog f args (grow (redrawn w d) os) fun e w'' => e = .returned v ∧ ∃ p : Regrown, w'' = grow (redrawn w p.d) p.os :=
  Calls.regrown_of (h.mono (fun e w' ⟨he, hq⟩ => ⟨he, by rw [hq]; exact Below.refl _ _⟩))
theorem rg_drew {f : FuncId} {args : Array Value} {w : World} {d : Nat} {os : Array Obj} {v : Value} (h : Calls Try.prog f args (grow (redrawn w d) os) fun e w' => e = .returned v ∧ ∃ q, w' = (grow (redrawn w d) os).drewN q) : Calls Try.prog f args (grow (redrawn w d) os) fun e w'' => e = .returned v ∧ ∃ p : Regrown, w'' = grow (redrawn w p.d) p.os :=
  Calls.regrown_of (h.mono (fun e w' ⟨he, q, hq⟩ => ⟨he, by rw [hq]; exact below_drewN (Below.refl _ _) q⟩))
set_option maxHeartbeats 16000000 in
set_option maxRecDepth 100000 in
theorem told_true {W w : World} {h : Nat} {m o f : Int} {sv nv vL : Value} {ss ns L : List (List Int)} (k : HX w h m o f sv nv ss ns) (hLd : ss ++ ns = L) (hL : RR W w vL L) (hWw : Below W.heap.size W w) (hby : ∀ x ∈ L, ∀ z ∈ x, 0 ≤ z ∧ z < 256) (m2 o2 : Int) (t : SdT) :
    Calls Try.prog 36 #[.pointer (some ⟨h, 0, none⟩), .agg (sdc vL ss.length f m2 o2 t).toArray] w fun e w' => e = .returned (.bool true) ∧ Below w.heap.size w w' := by
  obtain ⟨a, c, rfl⟩ := hL.shape
  obtain ⟨N, hN⟩ : ∃ N, L.length = N := ⟨_, rfl⟩
  rw [hN] at hL ⊢
  have hlapp : N = ss.length + ns.length := by rw [← hN, ← hLd, List.length_append]
  have hfin := k.fin
  have hwin := k.win
  have hcnt := k.cnt
  have hle : ∀ x ∈ L, x.length ≤ 300 := fun x hx => by
    rw [← hLd] at hx
    have := k.len x (List.mem_append.1 hx)
    omega
  have hsY := Blk.new w (sdc (.slice a N c) ss.length f m2 o2 t) 51
  have hb : Below w.heap.size w (w.alloc (.cells (sdc (.slice a N c) ss.length f m2 o2 t).toArray 51)) := (Below.refl _ _).alloc (Nat.le_refl _) _
  have kY := k.below hb
  have hLY := hL.below hb
  have hWY := hWw.trans (hb.mono hWw.size)
  have HN := Lib.hid (And.intro hN (And.intro hLd (And.intro hle hlapp)))
  have HBY := Lib.hid hby
  clear k hL hN hLd hle hby hWw hlapp
  go_enter Try.func36, Try.ntmps36
  go_upto_region 1 with fail
  generalize w.alloc (.cells (sdc (.slice a N c) ss.length f m2 o2 t).toArray 51) = Y at *
  obtain ⟨s, hs⟩ : ∃ s, w.heap.size = s := ⟨_, rfl⟩
  have HB := Lib.hid hb
  rw [hs] at hsY ⊢
  clear hb hs
  have hS : ∀ w', Below Y.heap.size Y w' → Below Y.heap.size Y w' ∧ w'.cell? ⟨s, 0, none⟩ = some (.slice a N c) ∧ w'.cell? ⟨s, 1, none⟩ = some (.int .i64 (ss.length : Int)) ∧ w'.cell? ⟨s, 2, none⟩ = some (.int .i64 f) ∧ w'.cell? ⟨s, 3, none⟩ = some (.int .i64 m2) ∧ w'.cell? ⟨s, 4, none⟩ = some (.int .i64 o2) ∧ w'.cell? ⟨s, 5, none⟩ = some (.bool t.cyc) ∧ w'.cell? ⟨s, 6, none⟩ = some (.int .i64 t.n1) ∧ w'.cell? ⟨s, 7, none⟩ = some (.int .i64 t.n2) ∧ w'.cell? ⟨s, 8, none⟩ = some (.bool t.fib) ∧ w'.cell? ⟨s, 9, none⟩ = some (.bool t.bib) ∧ w'.cell? ⟨s, 10, none⟩ = some (.int .i64 t.last) ∧ w'.cell? ⟨s, 11, none⟩ = some (.bool t.asked) ∧ w'.cell? ⟨s, 12, none⟩ = some (.int .i64 t.place) ∧ w'.cell? ⟨s, 13, none⟩ = some (.bool t.force) ∧ w'.cell? ⟨s, 14, none⟩ = some (.bool t.b1) ∧ w'.cell? ⟨s, 15, none⟩ = some (.bool t.b2) ∧ w'.cell? ⟨s, 16, none⟩ = some (.bool t.i1) ∧ w'.cell? ⟨s, 17, none⟩ = some (.bool t.i2) := fun w' hb => ⟨hb, (hb.cell (p := ⟨s, 0, none⟩) hsY.lt).trans (hsY.cell 0 rfl), (hb.cell (p := ⟨s, 1, none⟩) hsY.lt).trans (hsY.cell 1 rfl), (hb.cell (p := ⟨s, 2, none⟩) hsY.lt).trans (hsY.cell 2 rfl), (hb.cell (p := ⟨s, 3, none⟩) hsY.lt).trans (hsY.cell 3 rfl), (hb.cell (p := ⟨s, 4, none⟩) hsY.lt).trans (hsY.cell 4 rfl), (hb.cell (p := ⟨s, 5, none⟩) hsY.lt).trans (hsY.cell 5 rfl), (hb.cell (p := ⟨s, 6, none⟩) hsY.lt).trans (hsY.cell 6 rfl), (hb.cell (p := ⟨s, 7, none⟩) hsY.lt).trans (hsY.cell 7 rfl), (hb.cell (p := ⟨s, 8, none⟩) hsY.lt).trans (hsY.cell 8 rfl), (hb.cell (p := ⟨s, 9, none⟩) hsY.lt).trans (hsY.cell 9 rfl), (hb.cell (p := ⟨s, 10, none⟩) hsY.lt).trans (hsY.cell 10 rfl), (hb.cell (p := ⟨s, 11, none⟩) hsY.lt).trans (hsY.cell 11 rfl), (hb.cell (p := ⟨s, 12, none⟩) hsY.lt).trans (hsY.cell 12 rfl), (hb.cell (p := ⟨s, 13, none⟩) hsY.lt).trans (hsY.cell 13 rfl), (hb.cell (p := ⟨s, 14, none⟩) hsY.lt).trans (hsY.cell 14 rfl), (hb.cell (p := ⟨s, 15, none⟩) hsY.lt).trans (hsY.cell 15 rfl), (hb.cell (p := ⟨s, 16, none⟩) hsY.lt).trans (hsY.cell 16 rfl), (hb.cell (p := ⟨s, 17, none⟩) hsY.lt).trans (hsY.cell 17 rfl)⟩
  have kf := fun w' (hb : Below Y.heap.size Y w') => kY.below hb
  have Lf := fun w' (hb : Below Y.heap.size Y w') => hLY.below hb
  have c0 := hsY.cell 0 rfl
  have c1 := hsY.cell 1 rfl
  go_upto_region 2 with fail
  go_cut [16] (fun v wx => v = .bool (decide (ss.length < N)) ∧ wx = Y)
  case first =>
    go_wp2
    go_meet
    exact ⟨by simp, rfl⟩
  obtain ⟨h16, hyc⟩ := hcut
  rw [hyc]
  clear hyc
  go_wp2_with fail
  go_cut [5] (fun v wx => v = .int .i64 (size1 ns) ∧ wx = Y)
  case first =>
    cases hns : ns with
    | nil =>
      have hnlt : ¬ ss.length < N := by have := HN.out.2.2.2; rw [hns, List.length_nil] at this; omega
      have hdd : decide (ss.length < N) = false := decide_eq_false hnlt
      rw [hdd] at h16
      subst h16
      go_wp2
      go_meet
      exact ⟨by rw [hns]; rfl, rfl⟩
    | cons x r =>
      have hlt : ss.length < N := by have := HN.out.2.2.2; rw [hns, List.length_cons] at this; omega
      have hdd : decide (ss.length < N) = true := decide_eq_true hlt
      rw [hdd] at h16
      subst h16
      have hx : L[ss.length]? = some x := by rw [← HN.out.2.1, hns]; simp
      obtain ⟨g2, p2, cap2, v2, e3, y2, o2'⟩ := hLY.msg ss.length x hx
      simp only [Value.slice.injEq] at e3
      obtain ⟨rfl, -, rfl⟩ := e3
      obtain ⟨a2, d2, rfl, -⟩ := o2'
      go_wp2
      go_meet
      exact ⟨by rw [hns]; rfl, rfl⟩
  obtain ⟨rfl, hyc⟩ := hcut
  rw [hyc]
  clear h16 hyc
  have q24 := fun w' hb => (kf w' hb).sent
  have q53 := fun w' hb => (kf w' hb).nexts
  have q69 := fun w' hb => (kf w' hb).octets
  have q51 := fun w' hb => (kf w' hb).waiting
  have q80 := fun w' hb => (kf w' hb).size
  have q68 := fun w' hb => (kf w' hb).first
  have q71 := fun w' hb => (kf w' hb).last
  have q72 := fun w' hb n hn => (kf w' hb).knows n hn
  have hNb : N ≤ 1000 := by have := HN.out.2.2.2; omega
  have q77 := fun w' hb => rsize (Lf w' hb) (by rw [HN.out.1]; exact hNb) HN.out.2.2.1
  have htk : L.take ss.length = ss := by rw [← HN.out.2.1, List.take_left']; rfl
  have q77b := fun w' hb => rsize (htk ▸ (Lf w' hb).take ss.length (by rw [HN.out.1]; have := HN.out.2.2.2; omega)) (by omega) (fun x hx => HN.out.2.2.1 x (by rw [← HN.out.2.1]; exact List.mem_append_left _ hx))
  have q30 := fun (i : Int) (hi : -1 ≤ i ∧ i ≤ 1000) w' => rnumber a N c ss.length f m2 o2 t i w' (by omega) (by omega) (by omega) hfin
  have q79 := fun (i : Int) (hi : 0 ≤ i ∧ i ≤ 255) w' => rbehind a N c ss.length f m2 o2 t i w' (by omega) hfin
  have q77c : ∀ w' (hb : Below Y.heap.size Y w') (n : Nat) (Lx : List (List Int)), (n = N ∧ Lx = L ∨ n = ss.length ∧ Lx = ss) → Calls Try.prog 77 #[.slice a n c] w' fun e w'' => e = .returned (.int .i64 (octs Lx)) ∧ w'' = w' := fun w' hb n Lx h => by
    rcases h with ⟨rfl, rfl⟩ | ⟨rfl, rfl⟩
    · exact q77 w' hb
    · exact q77b w' hb
  clear q77 q77b
  rw [← octs_app, HN.out.2.1] at q69
  obtain ⟨X, hX⟩ : ∃ X : Int, (f + (ss.length : Int) - 1) % 128 = X := ⟨_, rfl⟩
  have hXb : 0 ≤ X ∧ X ≤ 127 := by omega
  rw [hX] at q71
  have q30a := q30 ((ss.length : Int) - 1) (by omega)
  rw [show (f + ((ss.length : Int) - 1)) % 128 = X from by omega] at q30a
  have hw1 : IntKind.i64.wrap ((N : Int) - (ss.length : Int)) = (ns.length : Int) := by have := HN.out.2.2.2; rw [wrapH _ (by omega)]; omega
  have hw2 : IntKind.i64.wrap f = f := wrapH _ (by omega)
  have hw3 : IntKind.i64.wrap X = X := wrapH _ (by omega)
  have hw4 : IntKind.i64.wrap ((ss.length : Int) - 1) = (ss.length : Int) - 1 := wrapH _ (by omega)
  have hsn : ss.length ≤ N := by have := HN.out.2.2.2; omega
  have hcapN : N ≤ c ∧ c ≤ maxLen := by have := hLY.len; omega
  have hsc : ss.length ≤ c := by omega
  have HR := Lib.hid (And.intro kf (And.intro Lf (And.intro q72 (And.intro q79 q30))))
  clear kf Lf q72 q79 q30 kY hLY hX htk
  have hS0 := hS Y.drew ⟨rfl, rfl, rfl, Nat.le_refl _, fun _ _ => rfl⟩
  go_upto_region 4 with fail
  go_cut [83] (fun v wx => v = .bool false ∧ Below Y.heap.size Y wx)
  case first =>
    have k0 := cell_regrown (hsY.cell 0 rfl)
    have k1 := cell_regrown (hsY.cell 1 rfl)
    have k2 := cell_regrown (hsY.cell 2 rfl)
    have c24 := fun d os => rg_same (q24 _ (below_regrown Y d os))
    have c53 := fun d os => rg_same (q53 _ (below_regrown Y d os))
    have c69 := fun d os => rg_drew (q69 _ (below_regrown Y d os))
    have c51 := fun d os => rg_same (q51 _ (below_regrown Y d os))
    have c80 := fun d os => rg_same (q80 _ (below_regrown Y d os))
    have c68 := fun d os => rg_same (q68 _ (below_regrown Y d os))
    have c71 := fun d os => rg_drew (q71 _ (below_regrown Y d os))
    have c77 := fun d os => rg_same (q77c _ (below_regrown Y d os) N L (.inl ⟨rfl, rfl⟩))
    have c77b := fun d os => rg_same (q77c _ (below_regrown Y d os) ss.length ss (.inr ⟨rfl, rfl⟩))
    have c30 := fun d os => Calls.regrown_of (q30a (grow (redrawn Y d) os))
    have hBq := blk_regrown hsY
    clear q24 q53 q69 q51 q80 q68 q71 q77c q30a hS hsY
    refine wp_region_quiet_below (by kernel_rfl) (by kernel_rfl) (WQ.out ?_)
    repeat (first | (refine WQ.load (.tmp 3) (by rfl) (by rfl) s (by rfl) _ hBq (by rfl) ?_) | (refine WQ.step (fun K hK => ?_); go_simp; first | (refine hK _ ?_; clear hK K) | (apply Exists.intro; refine ⟨fun _ => ?_, hK _ ?_⟩; (first | (go_at_call 24; exact c24 _ _) | (go_at_call 53; exact c53 _ _) | (go_at_call 69; exact c69 _ _) | (go_at_call 51; exact c51 _ _) | (go_at_call 77; first | with_reducible exact c77 _ _ | with_reducible exact c77b _ _) | (go_at_call 80; exact c80 _ _) | (go_at_call 68; exact c68 _ _) | (go_at_call 71; exact c71 _ _) | (go_at_call 30; exact c30 _ _)); clear hK K)))
    refine WQ.nil ?_
    intro _ hw'
    obtain ⟨⟨dq, osq⟩, hw''⟩ := hw'
    subst hw''
    go_wp2
    go_meet
    exact ⟨by simp, below_regrown Y dq osq⟩
  obtain ⟨rfl, hb4⟩ := hcut
  clear q24 q53 q69 q51 q80 q68 q71 q77c q30a hw1 hw2 hw3 hw4
  go_wp2_with fail
  go_loopw [6] (fun i wr => ∃ j : Int, -1 ≤ j ∧ j ≤ (ss.length : Int) + 1 ∧ i = .int .i64 j ∧ Below Y.heap.size Y wr) (fun i _ => ((ss.length : Int) + 1 - intOf i).toNat)
  case atStart => exact ⟨-1, by omega, by omega, rfl, hb4⟩
  case round =>
    clear hb4
    obtain ⟨j, hj1, hj2, rfl, hbr⟩ := hrel
    have y1 := (hbr.cell (p := ⟨s, 1, none⟩) hsY.lt).trans c1
    by_cases hlt : j ≤ (ss.length : Int)
    · have hwj : IntKind.i64.wrap (j + 1) = j + 1 := wrapH _ (by omega)
      by_cases hed : j < 0 ∨ (ss.length : Int) ≤ j
      · have q81 := (HR.out.1 wr hbr).at_none j hed
        by_cases hj0 : j < 0
        · go_wp2_with fail
          refine q81.mono ?_
          rintro e w5 ⟨rfl, rfl⟩
          go_wp2_with fail
          exact ⟨⟨j + 1, by omega, by omega, rfl, hbr⟩, by simp [intOf]; omega⟩
        · have hjs : j = (ss.length : Int) := by omega
          rw [hjs] at q81 hwj ⊢
          go_wp2_with fail
          refine q81.mono ?_
          rintro e w5 ⟨rfl, rfl⟩
          go_wp2_with fail
          exact ⟨⟨(ss.length : Int) + 1, by omega, by omega, rfl, hbr⟩, by simp [intOf]⟩
      · obtain ⟨i, hi⟩ : ∃ i : Nat, j = (i : Int) := ⟨j.toNat, by omega⟩
        subst hi
        have hil : i < ss.length := by omega
        obtain ⟨x, hx⟩ : ∃ x, ss[i]? = some x := ⟨_, List.getElem?_eq_getElem hil⟩
        have q81 := (HR.out.1 wr hbr).at_ok i x hx
        have hxL : L[i]? = some x := by rw [← HN.out.2.1, List.getElem?_append_left hil]; exact hx
        obtain ⟨g2, p2, cap2, v2, e3, y2, o2'⟩ := (HR.out.2.1 wr hbr).msg i x hxL
        rw [HN.out.1] at e3
        simp only [Value.slice.injEq] at e3
        obtain ⟨rfl, -, rfl⟩ := e3
        have hbx := HBY.out x (List.mem_of_getElem? hxL)
        have hiN : i < N := by omega
        have hn0 : ¬ ((i : Int) < 0) := by omega
        have hns : ¬ ((i : Int) = (ss.length : Int)) := by omega
        have g30 := HR.out.2.2.2.2 (i : Int) (by omega)
        obtain ⟨nn, hnn⟩ : ∃ nn : Int, (f + (i : Int)) % 128 = nn := ⟨_, rfl⟩
        rw [hnn] at q81 g30
        have hwn : IntKind.i64.wrap nn = nn := wrapH _ (by omega)
        have hWr := hWY.trans (hbr.mono hWY.size)
        go_wp2_with fail
        refine q81.mono ?_
        rintro e w5 ⟨g8, c8, cs8, rfl, hb5, hB8, hc8, -⟩
        have hbY5 := bthen hbr hb5
        have o1 : Oct w5 (.slice (some ⟨g8, 0, none⟩) x.length c8) x := Oct.blk hB8 hc8
        have hW5 := hWr.trans (hb5.mono hWr.size)
        have o2w := o2'.below hW5
        obtain ⟨a2, d2, rfl, -⟩ := o2'
        have y3 := (hb5.cell (World.block_lt_of_cell? _ _ y2)).trans y2
        have hBq := blk_regrown (hsY.below hbY5)
        have z0 := (hsY.below hbY5).cell 0 rfl
        have z1 := (hsY.below hbY5).cell 1 rfl
        have z2 := (hsY.below hbY5).cell 2 rfl
        have k0 := cell_regrown z0
        have k1 := cell_regrown z1
        have k2 := cell_regrown z2
        have kL := cell_regrown y3
        have s1 := fun d os => (o1.below (below_regrown w5 d os)).str hbx
        have s2 := fun d os => (o2w.below (below_regrown w5 d os)).str hbx
        have c30 := fun d os => Calls.regrown_of (g30 (grow (redrawn w5 d) os))
        have hns2 : ((i : Int) == (ss.length : Int)) = false := by simp; omega
        clear q81 hB8 hc8 o1 hW5 o2w y2 hbx hxL hx hnn
        generalize x.length = xl at *
        generalize strOfNums x = sx at *
        have HB5 := Lib.hid hbY5
        go_upto_region 13 with fail
        clear hS hbr hb5 hbY5 hWr g30
        go_cut [132] (fun v wx => v = .bool false ∧ Below w5.heap.size w5 wx)
        case first =>
          refine wp_region_quiet_below (by kernel_rfl) (by kernel_rfl) (WQ.out ?_)
          repeat (first | (refine WQ.load (.tmp 3) (by rfl) (by rfl) s (by rfl) _ hBq (by rfl) ?_) | (refine WQ.step (fun K hK => ?_); go_simp; first | (refine hK _ ?_; clear hK K) | (apply Exists.intro; refine ⟨fun _ => ?_, hK _ ?_⟩; (first | exact c30 _ _); clear hK K)))
          refine WQ.nil ?_
          intro _ hw'
          obtain ⟨⟨dq, osq⟩, hw''⟩ := hw'
          subst hw''
          go_wp2
          go_meet
          exact ⟨by simp, below_regrown w5 dq osq⟩
        obtain ⟨rfl, hbz⟩ := hcut
        go_wp2_with fail
        exact ⟨⟨(i : Int) + 1, by omega, by omega, rfl, bthen HB5.out hbz⟩, by simp [intOf]; omega⟩
    · go_wp2_with fail
      go_loopw [10] (fun i wr => ∃ j : Nat, j ≤ 52 ∧ i = .int .i64 ((5 * j : Nat) : Int) ∧ Below Y.heap.size Y wr) (fun i _ => (260 - intOf i).toNat)
      case atStart => exact ⟨0, by omega, rfl, hbr⟩
      case round =>
        clear hbr y1
        obtain ⟨j, hj, rfl, hbr⟩ := hrel
        by_cases hlt2 : 5 * j < 256
        · have hlt3 : ((5 * j : Nat) : Int) < 256 := by omega
          have hwu : IntKind.u8.wrap ((5 * j : Nat) : Int) = ((5 * j : Nat) : Int) := by simp [IntKind.wrap, IntKind.bits, IntKind.signed]; omega
          have hwi : IntKind.i64.wrap (((5 * j : Nat) : Int) + 5) = ((5 * (j + 1) : Nat) : Int) := by rw [wrapH _ (by omega)]; omega
          have g72 := fun w' hb => HR.out.2.2.1 w' hb ((5 * j : Nat) : Int) (by omega)
          have g79 := HR.out.2.2.2.1 ((5 * j : Nat) : Int) (by omega)
          have hkb := knows_beh f ss.length ((5 * j : Nat) : Int) (by omega)
          rw [hkb] at g79
          have hge : ∀ kb : Bool, ((0 : Int) ≤ (if kb = true then (((5 * j : Nat) : Int) - f + 1) % 128 else -1)) ↔ kb = true := fun kb => by cases kb <;> simp <;> omega
          obtain ⟨bI, hbI⟩ : ∃ bI : Int, (if knowsB f ss.length ((5 * j : Nat) : Int) = true then (((5 * j : Nat) : Int) - f + 1) % 128 else -1) = bI := ⟨_, rfl⟩
          rw [hbI] at g79
          obtain ⟨kb, hkb2⟩ : ∃ kb : Bool, knowsB f ss.length ((5 * j : Nat) : Int) = kb := ⟨_, rfl⟩
          rw [hkb2] at g72 hbI
          have hdk : decide ((0 : Int) ≤ bI) = kb := by rw [← hbI]; cases kb <;> simp; omega
          have hIJ := hj
          clear hkb hge hbI hkb2
          obtain ⟨z, hz⟩ : ∃ z : Int, ((5 * j : Nat) : Int) = z := ⟨_, rfl⟩
          rw [hz] at g72 g79 hwu hwi hlt3 ⊢
          have HZJ := Lib.hid hz
          clear hz hIJ
          go_upto_region 18 with fail
          clear c0 c1 HR
          go_cut [145] (fun v wx => v = .bool false ∧ Below Y.heap.size Y wx)
          case first =>
            have hBq := blk_regrown (hsY.below hbr)
            have z0 := (hsY.below hbr).cell 0 rfl
            have z1 := (hsY.below hbr).cell 1 rfl
            have z2 := (hsY.below hbr).cell 2 rfl
            have c72 : ∀ d os, Calls Try.prog 72 #[.pointer (some ⟨h, 0, none⟩), .int .u8 z] (grow (redrawn wr d) os) fun e w'' => e = .returned (.bool kb) ∧ ∃ p : Regrown, w'' = grow (redrawn wr p.d) p.os := fun d os => Calls.regrown_of ((g72 _ (bthen hbr (below_regrown wr d os))).mono (fun e w' ⟨he, q, hq⟩ => ⟨he, hq ▸ below_drewN (Below.refl _ _) q⟩))
            have c79 := fun d os => Calls.regrown_of (g79 (grow (redrawn wr d) os))
            clear g72 g79 hS
            have k0 := cell_regrown z0
            have k1 := cell_regrown z1
            have k2 := cell_regrown z2
            refine wp_region_quiet_below (by kernel_rfl) (by kernel_rfl) (WQ.out ?_)
            repeat (first | (refine WQ.load (.tmp 3) (by rfl) (by rfl) s (by rfl) _ hBq (by rfl) ?_) | (refine WQ.step (fun K hK => ?_); go_simp; first | (refine hK _ ?_; clear hK K) | (apply Exists.intro; refine ⟨fun _ => ?_, hK _ ?_⟩; (first | exact c72 _ _ | exact c79 _ _); clear hK K)))
            refine WQ.nil ?_
            intro _ hw'
            obtain ⟨⟨dq, osq⟩, hw''⟩ := hw'
            subst hw''
            go_wp2
            go_meet
            exact ⟨by simp, bthen hbr (below_regrown wr dq osq)⟩
          obtain ⟨rfl, hbz⟩ := hcut
          go_wp2_with fail
          exact ⟨⟨j + 1, by omega, rfl, hbz⟩, by have := HZJ.out; simp [intOf]; omega⟩
        · go_wp2
          go_ret
          exact ⟨rfl, HB.out.trans (hbr.mono HB.out.size)⟩
end Go.Proofs.Ytadheikcgdhcdaa
