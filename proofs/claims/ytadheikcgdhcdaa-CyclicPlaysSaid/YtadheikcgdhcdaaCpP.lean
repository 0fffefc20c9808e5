/-
  A cyclic way and the reference's side: the next unit, an answer, a message, act by act.
-/
import Derived.Test.YtadheikcgdhcdaaRm
import Derived.Test.YtadheikcgdhcdaaRzF
import Derived.Test.YtadheikcgdhcdaaRn
import Derived.Test.YtadheikcgdhcdaaCpA
namespace Go.Proofs.Ytadheikcgdhcdaa
open Go.RowKit Go.Sort
set_option linter.unusedVariables false
set_option linter.unusedSimpArgs false

theorem fitsR_eq (st : CSt) (hn : st.ns ≠ []) : fitsR st.ss.length st.n1 st.n2 (st.ss ++ st.ns) = fitsB st := by
  obtain ⟨y, r, h⟩ := List.exists_cons_of_ne_nil hn
  unfold fitsR fitsB
  have e : (st.ss ++ st.ns).take (st.ss.length + 1) = st.ss ++ [y] := by rw [h, List.take_append, List.take_of_length_le (by omega)]; simp
  have e2 : octs (st.ss ++ [y]) = octs st.ss + size1 st.ns := by rw [h]; simp [octs, size1]
  rw [e, e2]
theorem CM.again_old {W w : World} {b h : Nat} {m o : Int} {vL : Value} {st : CSt} (k : CM W w b h m o vL (st.ss ++ st.ns) st) (ho : st.ns = [] ∨ forceB st = true) (x : List Int) (hx : st.ss[placeC st]? = some x) :
    Calls Try.prog 87 #[.agg (sdS vL m o st).toArray] w fun e w' => ∃ v, e = .returned (.tuple #[.agg (sdS vL m o { st with pl := placeC st + 1, force := forceC st }).toArray, .agg (ucs st.last ((st.f + placeC st) % 128) true true 2 v).toArray]) ∧ Oct (only5 w) v x ∧ Below w.heap.size w w' := by
  have hB := k.bounds
  have hcnt : (st.ss ++ st.ns).length ≤ 1000 := by rw [List.length_append]; exact hB.cnt
  have h300 : ∀ x ∈ st.ss ++ st.ns, x.length ≤ 300 := fun x hx => by have := hB.len x hx; omega
  have hsl : st.ss.length ≤ (st.ss ++ st.ns).length := by rw [List.length_append]; omega
  have hpb : st.pl ≤ 1000 := by have := hB.pl; have := hB.win; omega
  have hl : 0 ≤ (tC st).last ∧ (tC st).last ≤ 255 := by have := hB.last; exact ⟨this.1, by show st.last ≤ 255; omega⟩
  have hil := (List.getElem?_eq_some_iff.1 hx).1
  have hx' : (st.ss ++ st.ns)[placeC st]? = some x := by rw [List.getElem?_append_left hil]; exact hx
  by_cases hp : st.ss.length ≤ st.pl
  · have hpc : placeC st = 0 := if_pos hp
    have hfc : forceC st = (decide (0 < st.ns.length) && !fitsB st) := if_pos hp
    rw [hpc] at hx' hil ⊢
    rw [hfc]
    by_cases hn : st.ns = []
    · have hsL : st.ss.length = (st.ss ++ st.ns).length := by simp [hn]
      cases hfo : st.force
      · refine (ragain_AfQ k.rr st.ss.length st.pl st.f m o (tC st) rfl hpb hsl hcnt h300 hl hB.f hsL hfo hp hil x hx').mono ?_
        rintro e w' ⟨v, hv, rfl, hb⟩
        exact ⟨v, by simp [sdS, sdc, tC, hfo, hn], hv, hb⟩
      · refine (ragain_AtQ k.rr st.ss.length st.pl st.f m o (tC st) rfl hpb hsl hcnt h300 hl hB.f hsL hfo hp hil x hx').mono ?_
        rintro e w' ⟨v, hv, rfl, hb⟩
        exact ⟨v, by simp [sdS, sdc, tC, hfo, hn], hv, hb⟩
    · have hnp : 0 < st.ns.length := List.length_pos_iff.2 hn
      have hsL : st.ss.length < (st.ss ++ st.ns).length := by rw [List.length_append]; omega
      have hfr := fitsR_eq st hn
      cases hft : fitsB st
      · rw [hft] at hfr
        refine (ragain_BQ k.rr st.ss.length st.pl st.f m o (tC st) rfl hpb hsl hcnt h300 hl hB.f hsL hfr hp hil x hx').mono ?_
        rintro e w' ⟨v, hv, rfl, hb⟩
        exact ⟨v, by simp [sdS, sdc, tC, hnp], hv, hb⟩
      · rw [hft] at hfr
        have hfo : st.force = true := by
          rcases ho with h | h
          · exact absurd h hn
          · simpa [forceB, hft] using h
        refine (ragain_CQ k.rr st.ss.length st.pl st.f m o (tC st) rfl hpb hsl hcnt h300 hl hB.f hsL hfr hfo hp hil x hx').mono ?_
        rintro e w' ⟨v, hv, rfl, hb⟩
        exact ⟨v, by simp [sdS, sdc, tC, hnp], hv, hb⟩
  · have hpc : placeC st = st.pl := if_neg hp
    have hfc : forceC st = forceB st := if_neg hp
    have hps : st.pl < st.ss.length := by omega
    rw [hpc] at hx' hil ⊢
    rw [hfc]
    by_cases hn : st.ns = []
    · have hsL : st.ss.length = (st.ss ++ st.ns).length := by simp [hn]
      cases hfo : st.force
      · refine (ragain_AfP k.rr st.ss.length st.pl st.f m o (tC st) rfl hpb hsl hcnt h300 hl hB.f hsL hfo hps x hx').mono ?_
        rintro e w' ⟨v, hv, rfl, hb⟩
        exact ⟨v, by simp [sdS, sdc, tC, hfo, hn, forceB], hv, hb⟩
      · refine (ragain_AtP k.rr st.ss.length st.pl st.f m o (tC st) rfl hpb hsl hcnt h300 hl hB.f hsL hfo hps x hx').mono ?_
        rintro e w' ⟨v, hv, rfl, hb⟩
        exact ⟨v, by simp [sdS, sdc, tC, hfo, hn, forceB], hv, hb⟩
    · have hnp : 0 < st.ns.length := List.length_pos_iff.2 hn
      have hsL : st.ss.length < (st.ss ++ st.ns).length := by rw [List.length_append]; omega
      have hfr := fitsR_eq st hn
      cases hft : fitsB st
      · rw [hft] at hfr
        refine (ragain_BP k.rr st.ss.length st.pl st.f m o (tC st) rfl hpb hsl hcnt h300 hl hB.f hsL hfr hps x hx').mono ?_
        rintro e w' ⟨v, hv, rfl, hb⟩
        exact ⟨v, by simp [sdS, sdc, tC, hnp, forceB, hft], hv, hb⟩
      · rw [hft] at hfr
        have hfo : st.force = true := by
          rcases ho with h | h
          · exact absurd h hn
          · simpa [forceB, hft] using h
        refine (ragain_CP k.rr st.ss.length st.pl st.f m o (tC st) rfl hpb hsl hcnt h300 hl hB.f hsL hfr hfo hps x hx').mono ?_
        rintro e w' ⟨v, hv, rfl, hb⟩
        exact ⟨v, by simp [sdS, sdc, tC, hnp, forceB, hft, hfo], hv, hb⟩
theorem CM.again_fill {W w : World} {b h : Nat} {m o : Int} {vL : Value} {st : CSt} (k : CM W w b h m o vL (st.ss ++ st.ns) st) (hs : st.ss = []) (ho : st.ns = [] ∨ st.force = true) :
    Calls Try.prog 87 #[.agg (sdS vL m o st).toArray] w fun e w' => e = .returned (.tuple #[.agg (sdS vL m o { st with pl := 0, force := false }).toArray, .agg (ucs st.last ((st.f - 1) % 128) true true 0 (.slice none 0 0)).toArray]) ∧ Below w.heap.size w w' := by
  have hB := k.bounds
  have hcnt : (st.ss ++ st.ns).length ≤ 1000 := by rw [List.length_append]; exact hB.cnt
  have h300 : ∀ x ∈ st.ss ++ st.ns, x.length ≤ 300 := fun x hx => by have := hB.len x hx; omega
  have hsl : st.ss.length ≤ (st.ss ++ st.ns).length := by rw [List.length_append]; omega
  have hpb : st.pl ≤ 1000 := by have := hB.pl; have := hB.win; omega
  have hl : 0 ≤ (tC st).last ∧ (tC st).last ≤ 255 := by have := hB.last; exact ⟨this.1, by show st.last ≤ 255; omega⟩
  have hs0 : st.ss.length = 0 := by rw [hs]; rfl
  by_cases hn : st.ns = []
  · have hsL : st.ss.length = (st.ss ++ st.ns).length := by simp [hn]
    cases hfo : st.force
    · refine (ragain_AfF k.rr st.ss.length st.pl st.f m o (tC st) rfl hpb hsl hcnt h300 hl hB.f hsL hfo hs0).mono ?_
      rintro e w' ⟨rfl, hb⟩
      exact ⟨by simp [sdS, sdc, tC, hs0], hb⟩
    · refine (ragain_AtF k.rr st.ss.length st.pl st.f m o (tC st) rfl hpb hsl hcnt h300 hl hB.f hsL hfo hs0).mono ?_
      rintro e w' ⟨rfl, hb⟩
      exact ⟨by simp [sdS, sdc, tC, hs0], hb⟩
  · have hnp : 0 < st.ns.length := List.length_pos_iff.2 hn
    have hsL : st.ss.length < (st.ss ++ st.ns).length := by rw [List.length_append]; omega
    have hfr := fitsR_eq st hn
    rw [show fitsB st = true from by simp [fitsB, hs0]] at hfr
    have hfo : st.force = true := by
      rcases ho with h | h
      · exact absurd h hn
      · exact h
    refine (ragain_CF k.rr st.ss.length st.pl st.f m o (tC st) rfl hpb hsl hcnt h300 hl hB.f hsL hfr hfo hs0).mono ?_
    rintro e w' ⟨rfl, hb⟩
    exact ⟨by simp [sdS, sdc, tC, hs0], hb⟩
theorem CM.again_new {W w : World} {b h : Nat} {m o : Int} {vL : Value} {st : CSt} (k : CM W w b h m o vL (st.ss ++ st.ns) st) (ha : st.force = false) (x : List Int) (rest : List (List Int)) (hn : st.ns = x :: rest) (hfit : fitsB st = true) (h127 : st.ss.length < 127) :
    Calls Try.prog 87 #[.agg (sdS vL m o st).toArray] w fun e w' => ∃ v, e = .returned (.tuple #[.agg (sdS vL m o { st with ss := st.ss ++ [x], ns := rest }).toArray, .agg (ucs st.last ((st.f + st.ss.length) % 128) true true 2 v).toArray]) ∧ Oct (only5 w) v x ∧ Below w.heap.size w w' := by
  have hB := k.bounds
  have hcnt : (st.ss ++ st.ns).length ≤ 1000 := by rw [List.length_append]; exact hB.cnt
  have h300 : ∀ x ∈ st.ss ++ st.ns, x.length ≤ 300 := fun x hx => by have := hB.len x hx; omega
  have hsL : st.ss.length < (st.ss ++ st.ns).length := by rw [hn]; simp
  have hl : 0 ≤ (tC st).last ∧ (tC st).last ≤ 255 := by have := hB.last; exact ⟨this.1, by show st.last ≤ 255; omega⟩
  have hfr := fitsR_eq st (by rw [hn]; simp)
  rw [hfit] at hfr
  refine (ragain_new k.rr st.ss.length st.f m o (tC st) hsL hcnt h300 hfr ha h127 hl hB.f x (by rw [hn]; simp)).mono ?_
  rintro e w' ⟨v, hv, rfl, hb⟩
  exact ⟨v, by simp [sdS, sdc, tC], hv, hb⟩
/-- What both sides' next act does. -/
theorem next_cases (st : CSt) (m o : Int) (hw : st.ss.length < 127) : ∃ (st' : CSt) (F K : Int) (X : List Int), st'.ss ++ st'.ns = st.ss ++ st.ns ∧ (X = [] ∨ X ∈ st.ss ++ st.ns) ∧
    (∀ (W w : World) (b h : Nat) (vL : Value), CM W w b h m o vL (st.ss ++ st.ns) st → Calls Try.prog 87 #[.agg (sdS vL m o st).toArray] w fun e w' => ∃ v, e = .returned (.tuple #[.agg (sdS vL m o st').toArray, .agg (ucs st.last F true true K v).toArray]) ∧ Oct (only5 w) v X ∧ Below w.heap.size w w') ∧
    (∀ (W w : World) (b h : Nat) (vL : Value) (L : List (List Int)), CM W w b h m o vL L st → Calls Try.prog 48 #[.pointer (some ⟨b, 0, none⟩)] w fun e w' => ∃ v, e = .returned (.agg (ucs st.last F true true K v).toArray) ∧ CM W w' b h m o vL L st' ∧ KpC w w' ∧ Oct w' v X) := by
  have hnil : ∀ w, Oct w (.slice none 0 0) [] := fun w => ⟨none, 0, rfl, fun j u hj => by simp at hj⟩
  by_cases hnew : st.force = false ∧ st.ns ≠ [] ∧ fitsB st = true
  · obtain ⟨h1, h2, h3⟩ := hnew
    obtain ⟨x, r, hn⟩ := List.exists_cons_of_ne_nil h2
    refine ⟨{ st with ss := st.ss ++ [x], ns := r }, (st.f + st.ss.length) % 128, 2, x, by simp [hn], .inr (by rw [hn]; simp), fun W w b h vL k => k.again_new h1 x r hn h3 hw, fun W w b h vL L k => ?_⟩
    obtain ⟨sv, nv, hX, hR, hap⟩ := k.ex
    refine (hX.next_new h1 x r hn h3 hw).mono ?_
    rintro e w' ⟨g8, c8, cs8, rfl, ⟨sv', nv', r1, r2⟩, r3, r4⟩
    exact ⟨_, rfl, k.step hX hR hap r1 r2, hX.kp r2, Oct.blk r3 r4⟩
  · have ho : st.ns = [] ∨ forceB st = true := by
      by_cases hn : st.ns = []
      · exact .inl hn
      · right
        have hnp : 0 < st.ns.length := List.length_pos_iff.2 hn
        unfold forceB
        cases hf : st.force <;> cases hft : fitsB st <;> simp_all
    by_cases hss : st.ss = []
    · have ho2 : st.ns = [] ∨ st.force = true := by
        rcases ho with h | h
        · exact .inl h
        · right
          have : fitsB st = true := by simp [fitsB, hss]
          simpa [forceB, this] using h
      refine ⟨{ st with pl := 0, force := false }, (st.f - 1) % 128, 0, [], rfl, .inl rfl, fun W w b h vL k => ?_, fun W w b h vL L k => ?_⟩
      · refine (k.again_fill hss ho2).mono ?_
        rintro e w' ⟨rfl, hb⟩
        exact ⟨_, rfl, hnil _, hb⟩
      · obtain ⟨sv, nv, hX, hR, hap⟩ := k.ex
        refine (hX.next_fill hss ho2).mono ?_
        rintro e w' ⟨rfl, r1, r2⟩
        exact ⟨_, rfl, k.step hX hR hap r1 r2, hX.kp r2, hnil _⟩
    · have hsp : 0 < st.ss.length := List.length_pos_iff.2 hss
      have hpl : placeC st < st.ss.length := by unfold placeC; split <;> omega
      obtain ⟨x, hx⟩ : ∃ x, st.ss[placeC st]? = some x := ⟨_, List.getElem?_eq_getElem hpl⟩
      refine ⟨{ st with pl := placeC st + 1, force := forceC st }, (st.f + placeC st) % 128, 2, x, rfl, .inr (List.mem_append_left _ (List.mem_of_getElem? hx)), fun W w b h vL k => k.again_old ho x hx, fun W w b h vL L k => ?_⟩
      obtain ⟨sv, nv, hX, hR, hap⟩ := k.ex
      refine (hX.next_again ho x hx).mono ?_
      rintro e w' ⟨g8, c8, cs8, rfl, r1, r2, r3, r4⟩
      exact ⟨_, rfl, k.step hX hR hap r1 r2, hX.kp r2, Oct.blk r3 r4⟩
theorem tC_eq (s : CSt) : tC s = tV s.n1 s.n2 s.last s.pl s.force s.q0 s.q1 := rfl
/-- What both sides make of an answer. -/
theorem answer_cases (st : CSt) (m o : Int) (hB : CB st) (bsn : Int) (hn : 0 ≤ bsn ∧ bsn ≤ 255) : ∃ (st' : CSt) (k f : Int), (∀ x ∈ st'.ss ++ st'.ns, x ∈ st.ss ++ st.ns) ∧ st'.ss.length + st'.ns.length ≤ st.ss.length + st.ns.length ∧
    (∀ (W w : World) (b h : Nat) (vL : Value) (us : List Value), CM W w b h m o vL (st.ss ++ st.ns) st → us[0]? = some (.int .u8 bsn) → Calls Try.prog 57 #[.agg (sdS vL m o st).toArray, .agg us.toArray] w fun e w' => ∃ vL', e = .returned (.tuple #[.agg (sdS vL' m o st').toArray, .int .i64 k, .int .i64 f]) ∧ CM W w' b h m o vL' (st'.ss ++ st'.ns) st ∧ Below w.heap.size w w') ∧
    (∀ (W w : World) (b h : Nat) (vL : Value) (L : List (List Int)) (fsn kind stt : Int) (bib fib x : Bool) (iv : Value), iv.oneCell' = true → CM W w b h m o vL L st → Calls Try.prog 50 #[.pointer (some ⟨b, 0, none⟩), .agg #[.int .u8 bsn, .int .u8 fsn, .bool bib, .bool fib, .int .u8 kind, .int .u8 stt, .bool x, iv]] w fun e w' => e = .returned (.tuple #[.int .i64 k, .int .i64 f]) ∧ CM W w' b h m o vL L st' ∧ KpC w w') := by
  have hbe := knows_beh st.f st.ss.length bsn hn.1
  have hf := hB.f
  cases hk : knowsB st.f st.ss.length bsn with
  | false =>
    rw [hk, if_neg (by decide)] at hbe
    refine ⟨{ st with q0 := st.q1, q1 := true }, 0, if (st.q0 || st.q1) = true then 10 else 0, fun x hx => hx, Nat.le_refl _, fun W w b h vL us k hu => ?_, fun W w b h vL L fsn kind stt bib fib x iv hiv k => ?_⟩
    · obtain ⟨a, c, hvL⟩ := k.rr.shape
      refine Calls.mono (R := fun e w' => e = .returned (.tuple #[.agg (sdS vL m o { st with q0 := st.q1, q1 := true }).toArray, .int .i64 0, .int .i64 (if (st.q0 || st.q1) = true then 10 else 0)]) ∧ Below w.heap.size w w') ?_ ?_
      · rw [hvL]
        exact ranswer_no a _ c st.ss.length st.f m o st.n1 st.n2 st.last st.pl st.force st.q0 st.q1 us bsn w hu hn hf hbe
      · rintro e w' ⟨rfl, hb⟩
        exact ⟨vL, rfl, k.below hb, hb⟩
    · obtain ⟨sv, nv, hx, hR, hap⟩ := k.ex
      refine (hx.answer_no bsn fsn kind stt bib fib x iv hiv hn hk).mono ?_
      rintro e w' ⟨rfl, r1, r2⟩
      exact ⟨rfl, k.step hx hR hap r1 r2, hx.kp r2⟩
  | true =>
    rw [hk, if_pos rfl] at hbe
    have hk2 : bsn < 128 ∧ (bsn - st.f + 1) % 128 ≤ st.ss.length := by simpa [knowsB] using hk
    obtain ⟨i, hi⟩ : ∃ i : Nat, (bsn - st.f + 1) % 128 = i := ⟨((bsn - st.f + 1) % 128).toNat, by omega⟩
    rw [hi] at hbe
    have hle : i ≤ st.ss.length := by omega
    have hcnt := hB.cnt
    have hpl := hB.pl
    have hwin := hB.win
    refine ⟨ansC st bsn i, i, 0, ?_, ?_, fun W w b h vL us k hu => ?_, fun W w b h vL L fsn kind stt bib fib x iv hiv k => ?_⟩
    · intro x hx
      rcases List.mem_append.1 hx with e | e
      · exact List.mem_append_left _ (List.mem_of_mem_drop e)
      · exact List.mem_append_right _ e
    · show (st.ss.drop i).length + st.ns.length ≤ _
      rw [List.length_drop]; omega
    · refine Calls.mono (ranswer_yes (only5 w) w vL (st.ss ++ st.ns) k.rr st.ss.length st.pl st.f m o st.n1 st.n2 st.last st.force st.q0 st.q1 us bsn hu hn hf i hbe (by rw [List.length_append]; omega) hle (by rw [List.length_append]; exact hcnt) (by omega)) ?_
      rintro e w' ⟨vL', rfl, h1, h2, h3⟩
      refine ⟨vL', ?_, k.row h2 (by show RR _ _ _ (st.ss.drop i ++ st.ns); rw [← List.drop_append_of_le_length hle]; exact h1) (fun g hg => .inl (h3 g hg)), h2⟩
      have e1 : (st.ss.length : Int) - (i : Int) = ((st.ss.drop i).length : Int) := by rw [List.length_drop]; omega
      have e2 : (st.f + (i : Int)) % 128 = (bsn + 1) % 128 := by omega
      rw [e1, e2]
      rfl
    · obtain ⟨sv, nv, hx, hR, hap⟩ := k.ex
      refine (hx.answer_yes bsn fsn kind stt bib fib x iv hiv hn hk i hi).mono ?_
      rintro e w' ⟨rfl, sv', r1, r2⟩
      exact ⟨rfl, k.step hx hR hap r1 r2, hx.kp r2⟩
/-- It is the next one, wherever its message lies: it is taken. -/
theorem CX.take_any {w : World} {b h : Nat} {m o : Int} {sv nv : Value} {s : CSt} (k : CX w b h m o sv nv s) (bsn fsn kind st : Int) (bib fib x : Bool) (xs : List Int) (iv : Value) (hO : ∀ w', BF w w' b h sv nv sv nv → Oct w' iv xs) (hiv : iv.oneCell' = true) (hxl : xs.length ≤ 400) (hn1 : fsn = (s.last + 1) % 128) (hkd : kind = 2) :
    Calls Try.prog 52 #[.pointer (some ⟨b, 0, none⟩), .agg #[.int .u8 bsn, .int .u8 fsn, .bool bib, .bool fib, .int .u8 kind, .int .u8 st, .bool x, iv]] w fun e w' =>
      ∃ p, e = .returned (.tuple #[p, .bool true, .int .i64 0]) ∧ CX w' b h m o sv nv { s with last := fsn } ∧ BF w w' b h sv nv sv nv ∧ Oct w' p xs := by
  have hU := Blk.new w [.int .u8 bsn, .int .u8 fsn, .bool bib, .bool fib, .int .u8 kind, .int .u8 st, .bool x, iv] 69
  have hB1 : Below w.heap.size w (w.alloc (.cells #[.int .u8 bsn, .int .u8 fsn, .bool bib, .bool fib, .int .u8 kind, .int .u8 st, .bool x, iv] 69)) := (Below.refl _ _).alloc (Nat.le_refl _) _
  have k1 := k.below hB1
  obtain ⟨W, hW⟩ : ∃ W, w.alloc (.cells #[.int .u8 bsn, .int .u8 fsn, .bool bib, .bool fib, .int .u8 kind, .int .u8 st, .bool x, iv] 69) = W := ⟨_, rfl⟩
  replace hU : Blk W w.heap.size [.int .u8 bsn, .int .u8 fsn, .bool bib, .bool fib, .int .u8 kind, .int .u8 st, .bool x, iv] 69 := by rw [← hW]; exact hU
  rw [hW] at hB1 k1
  have u1 := hU.cell 1 rfl
  have u4 := hU.cell 4 rfl
  have y3 := Blk.cell k1.cs 3 rfl
  subst hkd
  have hl2 : 0 ≤ fsn ∧ fsn ≤ 127 := by omega
  have HB := Lib.hid hB1
  have HU := Lib.hid hU
  have K1 := Lib.hid k1
  have HO := Lib.hid hO
  replace hW := Lib.hid hW
  have hnx := fun n => (next_is s.last (W.drewN n)).mono (R' := fun e w' => e = .returned (.int .u8 ((s.last + 1) % 128)) ∧ w' = W.drewN n) fun e w' h => ⟨h.1, h.2.symm⟩
  simp only [← hn1] at hnx
  have HN1 := Lib.hid hn1
  clear hn1 k k1 hU hB1 hO
  go_enter Try.func52, Try.ntmps52
  go_upto_region 3 with fail
  rw [hW.out]
  have e9 : (fsn != fsn) = false := by simp
  go_quiet (first | (go_at_call 76; exact Calls.quiet_of_same (hnx _)))
  have kq := K1.out.drewN nq
  have hF : Fr (· = b) (W.drewN nq) ((W.drewN nq).setCell ⟨b, 3, none⟩ (.int .u8 fsn)) := Fr.set1 (W.drewN nq) ⟨b, 3, none⟩ _
  have hres : CX ((W.drewN nq).setCell ⟨b, 3, none⟩ (.int .u8 fsn)) b h m o sv nv { s with last := fsn } := kq.own hF (Blk.set kq.cs 3 (.int .u8 fsn)) rfl rfl rfl rfl hl2
  have hF0 : BF w (W.drewN nq) b h sv nv sv nv := (BF.of_below sv nv HB.out).drewN nq
  have hF4 : BF w ((W.drewN nq).setCell ⟨b, 3, none⟩ (.int .u8 fsn)) b h sv nv sv nv := hF0.trans (.of_b hF)
  have hcl := clone_any iv xs _ (HO.out _ hF4) hxl
  have hU5 := (Blk.drewN HU.out nq).fr hF (fun e => (Blk.apart HU.out K1.out.cs (by decide)) e)
  have v7' := hU5.cell 7 rfl
  have f3 := Blk.frozen kq.cs 3
  have y3' := Blk.cell kq.cs 3 rfl
  have KR := Lib.hid hres
  have KF := Lib.hid hF4
  clear hres hF4 hU5 hF kq hF0
  go_wp2_with fail
  refine hcl.mono ?_
  rintro e w8 ⟨v8, rfl, hb8, ho8⟩
  go_wp2
  refine bodyPost_ret (v := .tuple #[v8, .bool true, .int .i64 0]) (by simp [results, Try.results52, go_sem]) rfl ?_
  exact ⟨v8, rfl, KR.out.below hb8, KF.out.below hb8, ho8⟩
/-- What both sides make of a unit's message. -/
theorem take_cases (st : CSt) (m o : Int) (hB : CB st) (fsn kind : Int) (hf : 0 ≤ fsn ∧ fsn ≤ 255) : ∃ (st' : CSt) (ok : Bool), st'.ss = st.ss ∧ st'.ns = st.ns ∧
    (∀ (W w : World) (b h : Nat) (vL : Value) (L : List (List Int)) (us : List Value), CM W w b h m o vL L st → us[1]? = some (.int .u8 fsn) → us[4]? = some (.int .u8 kind) → Calls Try.prog 58 #[.agg (sdS vL m o st).toArray, .agg us.toArray] w fun e w' => e = .returned (.tuple #[.agg (sdS vL m o st').toArray, .bool ok, .int .i64 0]) ∧ Below w.heap.size w w') ∧
    (∀ (W w : World) (b h : Nat) (vL : Value) (L : List (List Int)) (bsn stt : Int) (bib fib x : Bool) (iv : Value) (xs : List Int), Oct W iv xs → xs.length ≤ 400 → CM W w b h m o vL L st → Calls Try.prog 52 #[.pointer (some ⟨b, 0, none⟩), .agg #[.int .u8 bsn, .int .u8 fsn, .bool bib, .bool fib, .int .u8 kind, .int .u8 stt, .bool x, iv]] w fun e w' => ∃ p, e = .returned (.tuple #[p, .bool ok, .int .i64 0]) ∧ Oct w' p (if ok = true then xs else []) ∧ CM W w' b h m o vL L st' ∧ KpC w w') := by
  have hl := hB.last
  by_cases hd : kind = 2 ∧ fsn = (st.last + 1) % 128
  · refine ⟨{ st with last := fsn }, true, rfl, rfl, fun W w b h vL L us k hu1 hu4 => ?_, fun W w b h vL L bsn stt bib fib x iv xs hO hxl k => ?_⟩
    · obtain ⟨a, c, hvL⟩ := k.rr.shape
      rw [hvL]
      have := rtake a L.length c st.ss.length st.f m o st.n1 st.n2 st.last st.pl st.force st.q0 st.q1 us kind fsn w hu1 hu4 hl hf true (by simpa using hd)
      rw [if_pos rfl] at this
      exact this
    · obtain ⟨sv, nv, hx, hR, hap⟩ := k.ex
      refine (hx.take_any bsn fsn kind stt bib fib x xs iv (fun w' hF => hO.below (k.bel.trans (hF.fr.below k.bel.size (by rintro q (e | e | e); have := k.beb; omega; have := k.beh; omega; exact hR q e)))) hO.one hxl hd.2 hd.1).mono ?_
      rintro e w' ⟨p, rfl, r1, r2, r3⟩
      exact ⟨p, rfl, by rw [if_pos rfl]; exact r3, k.step hx hR hap r1 r2, hx.kp r2⟩
  · refine ⟨st, false, rfl, rfl, fun W w b h vL L us k hu1 hu4 => ?_, fun W w b h vL L bsn stt bib fib x iv xs hO hxl k => ?_⟩
    · obtain ⟨a, c, hvL⟩ := k.rr.shape
      rw [hvL]
      have := rtake a L.length c st.ss.length st.f m o st.n1 st.n2 st.last st.pl st.force st.q0 st.q1 us kind fsn w hu1 hu4 hl hf false (by simpa using hd)
      rw [if_neg (by decide)] at this
      exact this
    · obtain ⟨sv, nv, hx, hR, hap⟩ := k.ex
      refine (hx.take_no bsn fsn kind stt bib fib x iv hO.one (by by_cases h2 : kind = 2; exact .inr (fun e => hd ⟨h2, e⟩); exact .inl h2)).mono ?_
      rintro e w' ⟨rfl, hb⟩
      exact ⟨_, rfl, by rw [if_neg (by decide)]; exact ⟨none, 0, rfl, fun j u hj => by simp at hj⟩, k.below hb, .below hb⟩
theorem sdS_one {W w : World} {b h : Nat} {m o : Int} {vL : Value} {L : List (List Int)} {st : CSt} (k : CM W w b h m o vL L st) (m' o' : Int) (s : CSt) : (sdS vL m' o' s).toArray.all (·.oneCell') = true := by
  obtain ⟨a, c, rfl⟩ := k.rr.shape
  exact sdc_one _ _ _ _ _ _ _ _
theorem ucs_oneV (bsn fsn : Int) (bib fib : Bool) (kind : Int) {w : World} {v : Value} {x : List Int} (h : Oct w v x) : (ucs bsn fsn bib fib kind v).toArray.all (·.oneCell') = true := by
  obtain ⟨a, c, rfl, -⟩ := h
  exact ucs_one _ _ _ _ _ _ _ _
set_option maxRecDepth 100000 in
theorem rnext55 {st st' : CSt} {m o F K : Int} {X : List Int} (H : ∀ (W w : World) (b h : Nat) (vL : Value), CM W w b h m o vL (st.ss ++ st.ns) st → Calls Try.prog 87 #[.agg (sdS vL m o st).toArray] w fun e w' => ∃ v, e = .returned (.tuple #[.agg (sdS vL m o st').toArray, .agg (ucs st.last F true true K v).toArray]) ∧ Oct (only5 w) v X ∧ Below w.heap.size w w')
    {W w : World} {b h : Nat} {vL : Value} (k : CM W w b h m o vL (st.ss ++ st.ns) st) :
    Calls Try.prog 55 #[.agg (sdS vL m o st).toArray] w fun e w' => ∃ v, e = .returned (.tuple #[.agg (sdS vL m o st').toArray, .agg (ucs st.last F true true K v).toArray]) ∧ Oct (only5 w') v X ∧ Below w.heap.size w w' := by
  obtain ⟨X0, hX, hS, hR, hU, hb⟩ := side_two w (sdS vL m o st)
  have c5 : X0.cell? ⟨w.heap.size, 5, none⟩ = some (.bool true) := hS.cell 5 rfl
  have h87 := H _ _ _ _ _ (k.below hb)
  have h1 := sdS_one k m o st'
  obtain ⟨S, hSd⟩ : ∃ S, sdS vL m o st = S := ⟨_, rfl⟩
  obtain ⟨S', hSd'⟩ : ∃ S, sdS vL m o st' = S := ⟨_, rfl⟩
  have hl : S.length = 18 := by rw [← hSd]; rfl
  have hl' : S'.length = 18 := by rw [← hSd']; rfl
  rw [hSd] at hX hS h87 ⊢
  rw [hSd'] at h87 h1 ⊢
  clear hSd hSd'
  go_enter Try.func55, Try.ntmps55
  go_upto_region 1 with fail
  rw [← hX]
  clear hX
  go_wp2_with (refine wpList_side_load rfl (.tmp 1) rfl w.heap.size rfl _ hS hl ?_)
  refine h87.mono ?_
  rintro e w5 ⟨v, rfl, hv, hb5⟩
  have hR5 := hR.below hb5
  have hU5 := (hU.below hb5).fr (Fr.row1 w5 (w.heap.size + 1) S'.toArray) (fun e => by omega)
  have hRes := (Blk.row hR5 S').fr (Fr.row1 (w5.setRow (w.heap.size + 1) S'.toArray) (w.heap.size + 1 + 1) (ucs st.last F true true K v).toArray) (fun e => by omega)
  have hbw := below_row (below_row (bthen hb hb5) (by omega : w.heap.size ≤ w.heap.size + 1) S'.toArray) (by omega : w.heap.size ≤ w.heap.size + 1 + 1) (ucs st.last F true true K v).toArray
  have k5 : K5 X0 ((w5.setRow (w.heap.size + 1) S'.toArray).setRow (w.heap.size + 1 + 1) (ucs st.last F true true K v).toArray) := (K5.below hb5).trans ((K5.row hR5 (by decide) _).trans (K5.row hU5 (by decide) _))
  have hO := Lib.hid (Oct5.kp hv k5)
  have huo := ucs_oneV st.last F true true K hv
  clear k5 hv h87 hR hU hb hS
  go_wp2_with (first | (refine wpList_side_store rfl (.tmp 2) (.tmp 11) rfl (w.heap.size + 1) S' side0 rfl rfl hR5 hl' rfl h1 ?_) | (refine wpList_unit_store rfl (.tmp 3) (.tmp 12) rfl (w.heap.size + 1 + 1) (ucs st.last F true true K v) unit0 rfl rfl hU5 rfl rfl huo ?_))
  refine bodyPost_ret (res_two Try.results55 (by rfl) hRes hl' (by rfl) (Blk.row hU5 _) rfl) rfl ⟨v, rfl, hO.out, hbw⟩
structure QW (W w : World) (b h s : Nat) (m : Int) (vL : Value) (st : CSt) : Prop where
  cm : CM W w b h m 5000 vL (st.ss ++ st.ns) st
  sd : Blk w s (sdS vL m 5000 st) 51
  hs : W.heap.size ≤ s
  by' : ∀ x ∈ st.ss ++ st.ns, ∀ z ∈ x, 0 ≤ z ∧ z < 256
  cnt : st.ss.length + st.ns.length ≤ 20
theorem QW.below {W w w' : World} {b h s : Nat} {m : Int} {vL : Value} {st : CSt} (k : QW W w b h s m vL st) (hb : Below w.heap.size w w') : QW W w' b h s m vL st := ⟨k.cm.below hb, k.sd.below hb, k.hs, k.by', k.cnt⟩
/-- The side is written, behind both acts. -/
theorem QW.store {W w : World} {b h s : Nat} {m : Int} {vL : Value} {L : List (List Int)} {st : CSt} {old : List Value} (k : CM W w b h m 5000 vL L st) (hL : L = st.ss ++ st.ns) (hB : Blk w s old 51) (hs : W.heap.size ≤ s) (hby : ∀ x ∈ st.ss ++ st.ns, ∀ z ∈ x, 0 ≤ z ∧ z < 256) (hc : st.ss.length + st.ns.length ≤ 20)
    {S : List Value} (hS : S = sdS vL m 5000 st) : QW W (w.setRow s S.toArray) b h s m vL st := by
  subst hL hS
  exact ⟨k.setRow hB (by decide) (by decide) (by decide) (by decide) hs _, Blk.row hB _, hs, hby, hc⟩
theorem sdS_len (vL : Value) (m o : Int) (st : CSt) : (sdS vL m o st).length = 18 := rfl
/-- A side and a unit, laid and written. -/
theorem two_boxes (w : World) (cs us : List Value) : ∃ X, X = (((w.alloc (.cells #[.slice none 0 0, .int .i64 0, .int .i64 0, .int .i64 0, .int .i64 0, .bool false, .int .i64 0, .int .i64 0, .bool false, .bool false, .int .i64 0, .bool false, .int .i64 0, .bool false, .bool false, .bool false, .bool false, .bool false] 51)).alloc (.cells #[.int .u8 0, .int .u8 0, .bool false, .bool false, .int .u8 0, .int .u8 0, .bool false, .slice none 0 0] 69)).setRow w.heap.size cs.toArray).setRow (w.heap.size + 1) us.toArray ∧ Blk X w.heap.size cs 51 ∧ Blk X (w.heap.size + 1) us 69 ∧ Below w.heap.size w X ∧
    Blk ((w.alloc (.cells side0.toArray 51)).alloc (.cells unit0.toArray 69)) w.heap.size side0 51 ∧ Blk (((w.alloc (.cells side0.toArray 51)).alloc (.cells unit0.toArray 69)).setRow w.heap.size cs.toArray) (w.heap.size + 1) unit0 69 := by
  have h1 : Blk ((w.alloc (.cells side0.toArray 51)).alloc (.cells unit0.toArray 69)) w.heap.size side0 51 := Blk.alloc (Blk.new w side0 51) _
  have h2 : Blk ((w.alloc (.cells side0.toArray 51)).alloc (.cells unit0.toArray 69)) (w.heap.size + 1) unit0 69 := by
    have := Blk.new (w.alloc (.cells side0.toArray 51)) unit0 69
    rw [World.size_alloc] at this
    exact this
  have h3 := h2.fr (Fr.row1 _ w.heap.size cs.toArray) (fun e => by omega)
  refine ⟨_, rfl, (Blk.row h1 cs).fr (Fr.row1 _ (w.heap.size + 1) us.toArray) (fun e => by omega), Blk.row h3 us, ?_, h1, h3⟩
  exact below_row (below_row (((Below.refl _ _).alloc (Nat.le_refl _) _).alloc (by simp) _) (Nat.le_refl _) _) (by omega) _
theorem made_zero (n : Nat) (i : Nat) (h : i < n) : (madeCells #[Value.int .u8 0] n).toList[i]? = some (.int .u8 0) := by
  simp [madeCells, h, Nat.mod_one]
theorem make_octs (n : Nat) (hn : n ≤ 1000) (w : World) : (Instr.makeSlice 33 (.int .i64 n) (.int .i64 n)).run Try.prog w = .ok (.slice (some ⟨w.heap.size, 0, none⟩) n n) (w.alloc (.cells (madeCells #[Value.int .u8 0] n) 5)) := by
  obtain ⟨i0, hi, hz0, hz1, hz2⟩ := info_parts infoC5
  have := run_makeSlice (P := Try.prog) w 33 5 i0 (.int .u8 0) Try.underlying33 hi hz0 .i64 .i64 n n (by omega) (by omega) (by rw [hz1]; simp; omega) (by rw [hz2]; omega) (by omega)
  rw [hz1] at this
  simpa [Value.cells] using this
/-- Zeros, of which the first is written. -/
theorem made_set (K : Nat) (hK : 0 < K) (q : Int) (j : Nat) (u : Value) (h : ((q :: List.replicate (K - 1) 0).map (Value.int .u8))[j]? = some u) : ((madeCells #[Value.int .u8 0] K).toList.set 0 (.int .u8 q))[j]? = some u := by
  have hl : (madeCells #[Value.int .u8 0] K).toList.length = K := by simp [madeCells]
  cases j with
  | zero =>
    rw [List.getElem?_set_self (by omega)]
    simpa using h
  | succ j =>
    have hj := (List.getElem?_eq_some_iff.1 h).1
    simp at hj
    rw [List.getElem?_set_ne (by omega), made_zero K (j + 1) (by omega)]
    simp only [List.map_cons, List.getElem?_cons_succ, List.map_replicate, List.getElem?_replicate] at h
    rw [if_pos (by omega)] at h
    exact h
theorem made_blk (w : World) (K : Nat) : Blk (w.alloc (.cells (madeCells #[Value.int .u8 0] K) 5)) w.heap.size (madeCells #[Value.int .u8 0] K).toList 5 := by
  have := Blk.new w (madeCells #[Value.int .u8 0] K).toList 5
  simpa using this
theorem rg_below {f : FuncId} {args : Array Value} {w : World} {d : Nat} {os : Array Obj} {v : Value} (h : Calls Try.prog f args (grow (redrawn w d) os) fun e w' => e = .returned v ∧ Below (grow (redrawn w d) os).heap.size (grow (redrawn w d) os) w') : Calls Try.prog f args (grow (redrawn w d) os) fun e w'' => e = .returned v ∧ ∃ p : Regrown, w'' = grow (redrawn w p.d) p.os := Calls.regrown_of h
theorem rg_eq {f : FuncId} {args : Array Value} {w : World} {d : Nat} {os : Array Obj} {v : Value} (h : Calls Try.prog f args (grow (redrawn w d) os) fun e w' => e = .returned v ∧ w' = grow (redrawn w d) os) : Calls Try.prog f args (grow (redrawn w d) os) fun e w'' => e = .returned v ∧ ∃ p : Regrown, w'' = grow (redrawn w p.d) p.os :=
  Calls.regrown_of (h.mono (fun e w' ⟨he, hq⟩ => ⟨he, by rw [hq]; exact Below.refl _ _⟩))
end Go.Proofs.Ytadheikcgdhcdaa
