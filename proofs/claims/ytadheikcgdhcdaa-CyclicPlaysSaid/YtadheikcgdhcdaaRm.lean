/-
  A cyclic way and the reference's side: a ghost of octets, and what both share.
-/
import Derived.Test.YtadheikcgdhcdaaCxT
import Derived.Test.YtadheikcgdhcdaaCxO
import Derived.Test.YtadheikcgdhcdaaRh
import Derived.Test.YtadheikcgdhcdaaHpP
import Derived.Test.YtadheikcgdhcdaaRi
namespace Go.Proofs.Ytadheikcgdhcdaa
open Go.RowKit Go.Sort
set_option linter.unusedVariables false
set_option linter.unusedSimpArgs false

def keep5 : Obj → Obj
  | .cells c e fr => if e = 5 ∧ fr = (0, 0) then .cells c 5 (0, 0) else .cells #[] 0 (0, 0)
  | _ => .cells #[] 0 (0, 0)
/-- A world's rows of octets alone. -/
def only5 (w : World) : World := { w with heap := w.heap.map keep5 }
theorem only5_blk {w : World} {g : Nat} {cs : List Value} (h : Blk w g cs 5) : Blk (only5 w) g cs 5 := by
  unfold Blk only5 at *
  simp [h, keep5]
theorem only5_cell {w : World} {ad : Addr} {u : Value} (h : (only5 w).cell? ad = some u) : ∃ cs, Blk w ad.block cs 5 ∧ ad.spot.isSome = false ∧ cs[ad.off]? = some u := by
  unfold World.cell? only5 at h
  simp only [Array.getElem?_map] at h
  cases hb : w.heap[ad.block]? with
  | none => rw [hb] at h; simp at h
  | some o =>
    rw [hb] at h
    cases o with
    | cells c e fr =>
      simp only [Option.map_some, keep5] at h
      by_cases hc : e = 5 ∧ fr = (0, 0)
      · rw [if_pos hc] at h
        obtain ⟨rfl, rfl⟩ := hc
        refine ⟨c.toList, ?_, ?_, ?_⟩
        · unfold Blk; rw [hb]
        · cases hs : ad.spot.isSome with
          | false => rfl
          | true => simp [hs] at h
        · cases hs : ad.spot.isSome with
          | false => simpa [hs] using h
          | true => simp [hs] at h
      · rw [if_neg hc] at h
        simp at h
    | _ => simp [keep5] at h
theorem cell_blk {w : World} {ad : Addr} {u : Value} {cs : List Value} {T : TypeId} (h : Blk w ad.block cs T) (hs : ad.spot.isSome = false) (hu : cs[ad.off]? = some u) : w.cell? ad = some u := by
  unfold Blk at h
  unfold World.cell?
  simp [h, hs, hu]
/-- Blocks of octets are as they were. -/
def K5 (w w' : World) : Prop := ∀ g cs, Blk w g cs 5 → Blk w' g cs 5
theorem K5.refl (w : World) : K5 w w := fun _ _ h => h
theorem K5.trans {a b c : World} (h : K5 a b) (k : K5 b c) : K5 a c := fun _ _ hB => k _ _ (h _ _ hB)
theorem KpC.k5 {w w' : World} (h : KpC w w') : K5 w w' := fun _ _ hB => h.2 _ _ _ (by decide) (by decide) (by decide) hB
theorem K5.below {w w' : World} (h : Below w.heap.size w w') : K5 w w' := fun _ _ hB => hB.below h
theorem K5.row {w : World} {r : Nat} {cs : List Value} {T : TypeId} (hB : Blk w r cs T) (hT : T ≠ 5) (ds : Array Value) : K5 w (w.setRow r ds) := fun g cs hG => hG.fr (Fr.row1 w r ds) (fun e => hB.apart hG hT e.symm)
theorem Oct5.to {w w' : World} {v : Value} {x : List Int} (h : Oct (only5 w) v x) (hk : K5 w w') : Oct w' v x := by
  obtain ⟨a, c, rfl, hc⟩ := h
  refine ⟨a, c, rfl, fun j u hj => ?_⟩
  obtain ⟨ad, rfl, h2⟩ := hc j u hj
  obtain ⟨cs, h3, h4, h5⟩ := only5_cell h2
  exact ⟨ad, rfl, cell_blk (hk _ _ h3) h4 h5⟩
theorem Oct5.kp {w w' : World} {v : Value} {x : List Int} (h : Oct (only5 w) v x) (hk : K5 w w') : Oct (only5 w') v x := by
  obtain ⟨a, c, rfl, hc⟩ := h
  refine ⟨a, c, rfl, fun j u hj => ?_⟩
  obtain ⟨ad, rfl, h2⟩ := hc j u hj
  obtain ⟨cs, h3, h4, h5⟩ := only5_cell h2
  exact ⟨ad, rfl, cell_blk (only5_blk (hk _ _ h3)) h4 h5⟩
theorem RR.kp {w w1 w' : World} {vL : Value} {L : List (List Int)} (h : RR (only5 w) w1 vL L) (hk : K5 w w') : RR (only5 w') w1 vL L := by
  obtain ⟨vs, h1, h2, h3⟩ := h
  refine ⟨vs, h1, h2, fun i x hx => ?_⟩
  obtain ⟨v, h4, h5⟩ := h3 i x hx
  exact ⟨v, h4, Oct5.kp h5 hk⟩
theorem Oct5.blk {w : World} {g c : Nat} {cs : List Value} {x : List Int} (hB : Blk w g cs 5) (hc : ∀ (j : Nat) (u : Value), (x.map (Value.int .u8))[j]? = some u → cs[j]? = some u) : Oct (only5 w) (.slice (some ⟨g, 0, none⟩) x.length c) x :=
  Oct.blk (only5_blk hB) hc
theorem eqin_nil_none (d : Nat) (len cap : Nat) (w : World) : (Op.equalIn (d + 1) 33 (.slice none len cap) (.slice none 0 0)).run Try.prog w = .ok true w := by
  simp [Op.equalIn, run_underlying Try.underlying33]
theorem eq_nil_none (len cap : Nat) (w : World) : (binOp .eql 33 (.slice none len cap) (.slice none 0 0)).run Try.prog w = .ok (.bool true) w := by
  have h1 : (Op.equal 33 (.slice none len cap) (.slice none 0 0)).run Try.prog w = .ok true w := eqin_nil_none 9999 len cap w
  simp [binOp, h1]
/-- None is put behind none. -/
theorem wpList_append_zero {w : World} {ops : Array Oper} {rest : List Oper} {o : Oper} {a : Act} {Q : Exit → Act → World → Prop}
    (hg : o.guard = none) (s x : Operand) (hop : o.op = Op.call { callee := Callee.builtin Builtin.append, args := #[s, x], argTypes := #[33, 33] })
    (g c : Nat) (ad : Addr) (hs : a.eval s = .slice (some ⟨g, 0, none⟩) 0 0) (hx : a.eval x = .slice (some ad) 0 c)
    (hK : wpList Try.prog ops Q rest (a.put o.dst (.slice (some ⟨g, 0, none⟩) 0 0)) w) : wpList Try.prog ops Q (o :: rest) a w := by
  refine wpList_plain hg fun K hK' => ?_
  obtain ⟨i0, hi, hi0, hi1, hi2⟩ := info_parts infoC5
  have hrun := run_append_room_cells (P := Try.prog) w 33 o.type 5 i0 Try.underlying33 hi g 0 0 0 ad 0 c [] (by simp) (fun j u hj => by simp at hj) (fun u hu => by simp at hu) (by omega) (fun j hj => by simp at hj) (fun j hj => by simp at hj)
  unfold Oper.wp
  simp only [execOp, hop, resolve, invoke, builtin, Sem.run_bind, Sem.run_pure, Result.andThen_ok, List.map_toArray, List.map_cons, List.map_nil, hs, hx, hrun]
  exact hK' _ _ hK
set_option maxRecDepth 100000 in
/-- A clone of any octets. -/
theorem clone_any (v : Value) (x : List Int) (w : World) (h : Oct w v x) (hm : x.length ≤ 400) :
    Calls Try.prog 70 #[v] w fun e w' => ∃ v', e = .returned v' ∧ Below w.heap.size w w' ∧ Oct w' v' x := by
  obtain ⟨a, c, rfl, hc⟩ := h
  by_cases h0 : x.length = 0
  · obtain rfl := List.eq_nil_of_length_eq_zero h0
    clear hc
    have hB : Below w.heap.size w (w.alloc (.cells #[] 5)) := (Below.refl _ _).alloc (Nat.le_refl _) _
    cases a with
    | none =>
      rw [List.length_nil]
      have hq := eq_nil_none 0 c w
      go_enter Try.func70, Try.ntmps70
      go_wp2
      go_ret
      exact ⟨_, rfl, Below.refl _ _, none, 0, rfl, fun j u hj => by simp at hj⟩
    | some ad =>
      have hq := eq_nil ad 0 c w
      go_enter Try.func70, Try.ntmps70
      go_wp2_with (refine wpList_append_zero rfl (.tmp 5) (.tmp 6) rfl w.heap.size c ad rfl rfl ?_)
      refine bodyPost_ret (v := .slice (some ⟨w.heap.size, 0, none⟩) 0 0) (by simp [results, Try.results70, go_sem]) rfl ?_
      exact ⟨_, rfl, hB, some ⟨w.heap.size, 0, none⟩, 0, rfl, fun j u hj => by simp at hj⟩
  · have hp : 0 < x.length := by omega
    obtain ⟨ad, rfl, -⟩ := hc 0 (.int .u8 (x[0]'hp)) (by simp [hp])
    refine (clone_ad ad x.length c (x.map (Value.int .u8)) w (fun j u hj => ?_) (by rw [List.length_map]) hp hm (fun u hu => by obtain ⟨n, -, rfl⟩ := List.mem_map.1 hu; rfl)).mono ?_
    · obtain ⟨ad', e, h2⟩ := hc j u hj
      rw [Option.some.inj e]; exact h2
    · rintro e w' ⟨g', c', cs, rfl, h1, h2, h3, h4⟩
      exact ⟨_, rfl, h1, Oct.blk h3 h4⟩
/-- A side as a cyclic way has it. -/
def tC (s : CSt) : SdT := ⟨true, s.n1, s.n2, true, true, s.last, false, s.pl, s.force, s.q0, s.q1, false, false⟩
/-- A side's cells that a cyclic way in this state has. -/
def sdS (vL : Value) (m o : Int) (s : CSt) : List Value := sdc vL s.ss.length s.f m o (tC s)
/-- A cyclic way behind W, and the reference's row of messages. -/
structure CM (W w : World) (b h : Nat) (m o : Int) (vL : Value) (L : List (List Int)) (st : CSt) : Prop where
  bel : Below W.heap.size W w
  beb : W.heap.size ≤ b
  beh : W.heap.size ≤ h
  ex : ∃ sv nv, CX w b h m o sv nv st ∧ (∀ q, Ro sv nv q → W.heap.size ≤ q) ∧ (∀ g, vL.ownBlock = some g → ¬ Ro sv nv g)
  rr : RR (only5 w) w vL L
theorem CM.below {W w w' : World} {b h : Nat} {m o : Int} {vL : Value} {L : List (List Int)} {st : CSt} (k : CM W w b h m o vL L st) (hb : Below w.heap.size w w') : CM W w' b h m o vL L st := by
  obtain ⟨sv, nv, hX, hR, hap⟩ := k.ex
  exact ⟨k.bel.trans (hb.mono k.bel.size), k.beb, k.beh, ⟨sv, nv, hX.below hb, hR, hap⟩, (k.rr.below hb).kp (.below hb)⟩
theorem CM.setRow {W w : World} {b h r : Nat} {m o : Int} {vL : Value} {L : List (List Int)} {st : CSt} {cs : List Value} {T : TypeId} (k : CM W w b h m o vL L st) (hB : Blk w r cs T) (h1 : T ≠ 105) (h2 : T ≠ 33) (h3 : T ≠ 5) (h4 : T ≠ 120) (hr : W.heap.size ≤ r) (ds : Array Value) : CM W (w.setRow r ds) b h m o vL L st := by
  obtain ⟨sv, nv, hX, hR, hap⟩ := k.ex
  refine ⟨below_row k.bel hr _, k.beb, k.beh, ⟨sv, nv, hX.setRow hB h1 h2 h3 h4 ds, hR, hap⟩, RR.kp (k.rr.fr (Fr.row1 w r ds) (fun g hg e => ?_)) (K5.row hB h3 ds)⟩
  obtain ⟨cs', hc⟩ := k.rr.own33 hg
  exact hB.apart hc h2 e.symm
theorem CM.setCell {W w : World} {b h : Nat} {m o : Int} {vL : Value} {L : List (List Int)} {st : CSt} {cs : List Value} {T : TypeId} {p : Addr} (k : CM W w b h m o vL L st) (hB : Blk w p.block cs T) (h1 : T ≠ 105) (h2 : T ≠ 33) (h3 : T ≠ 5) (h4 : T ≠ 120) (hr : W.heap.size ≤ p.block) (v : Value) : CM W (w.setCell p v) b h m o vL L st := by
  obtain ⟨sv, nv, hX, hR, hap⟩ := k.ex
  have hF : Fr (· = p.block) w (w.setCell p v) := Fr.set1 w p v
  refine ⟨k.bel.setCell hr v, k.beb, k.beh, ⟨sv, nv, ⟨Blk.fr hX.cs hF (fun e => hB.apart hX.cs h4 e.symm), hX.hx.fr hF (fun e => hB.apart hX.hx.blk h1 e.symm) (fun q hq e => ?_) (fun g cs hG e => hB.apart hG h3 e.symm), hX.inv, hX.lst⟩, hR, hap⟩, RR.kp (k.rr.fr hF (fun g hg e => ?_)) (fun g cs hG => hG.fr hF (fun e => hB.apart hG h3 e.symm))⟩
  · obtain ⟨ds, hd⟩ := hX.hx.row33 hq
    exact hB.apart hd h2 e.symm
  · obtain ⟨cs', hc⟩ := k.rr.own33 hg
    exact hB.apart hc h2 e.symm
/-- The model acts; the reference's row stands. -/
theorem CM.step {W w w' : World} {b h : Nat} {m o : Int} {vL sv nv sv' nv' : Value} {L : List (List Int)} {st st' : CSt} (k : CM W w b h m o vL L st) (hX : CX w b h m o sv nv st) (hR : ∀ q, Ro sv nv q → W.heap.size ≤ q) (hap : ∀ g, vL.ownBlock = some g → ¬ Ro sv nv g)
    (kn : CX w' b h m o sv' nv' st') (hF : BF w w' b h sv nv sv' nv') : CM W w' b h m o vL L st' := by
  refine ⟨k.bel.trans (hF.fr.below k.bel.size ?_), k.beb, k.beh, ⟨sv', nv', kn, fun q hq => ?_, fun g hg e => ?_⟩, RR.kp (k.rr.fr hF.fr (fun g hg e => ?_)) (hX.kp hF).k5⟩
  · rintro q (e | e | e)
    · have := k.beb; omega
    · have := k.beh; omega
    · exact hR q e
  · rcases hF.own q hq with e | e
    · exact hR q e
    · exact Nat.le_trans k.bel.size e
  · rcases hF.own g e with e2 | e2
    · exact hap g hg e2
    · obtain ⟨cs, hc⟩ := k.rr.own33 hg
      have := hc.lt
      omega
  · obtain ⟨cs, hc⟩ := k.rr.own33 hg
    rcases e with e | e | e
    · exact hc.apart hX.cs (by decide) e
    · exact hc.apart hX.hx.blk (by decide) e
    · exact hap g hg e
/-- The reference acts; the model stands. -/
theorem CM.row {W w w' : World} {b h : Nat} {m o : Int} {vL vL' : Value} {L L' : List (List Int)} {st : CSt} (k : CM W w b h m o vL L st) (hb : Below w.heap.size w w') (hR : RR (only5 w) w' vL' L') (hown : ∀ g, vL'.ownBlock = some g → vL.ownBlock = some g ∨ w.heap.size ≤ g) : CM W w' b h m o vL' L' st := by
  obtain ⟨sv, nv, hX, hRo, hap⟩ := k.ex
  refine ⟨k.bel.trans (hb.mono k.bel.size), k.beb, k.beh, ⟨sv, nv, hX.below hb, hRo, fun g hg e => ?_⟩, hR.kp (.below hb)⟩
  rcases hown g hg with e2 | e2
  · exact hap g e2 e
  · obtain ⟨cs, hc⟩ := hX.hx.row33 e
    have := hc.lt
    omega
theorem CM.kpb {W w w' : World} {b h : Nat} {m o : Int} {vL sv nv sv' nv' : Value} {L : List (List Int)} {st st' : CSt} (hX : CX w b h m o sv nv st) (hF : BF w w' b h sv nv sv' nv') : KpC w w' := hX.kp hF
theorem CM.hold {W w : World} {b h : Nat} {m o : Int} {vL : Value} {L : List (List Int)} {st : CSt} (k : CM W w b h m o vL L st) : Calls Try.prog 47 #[.pointer (some ⟨b, 0, none⟩)] w fun e w' => e = .returned (.pointer (some ⟨h, 0, none⟩)) ∧ w' = w := by
  obtain ⟨sv, nv, hx, hR, hap⟩ := k.ex
  exact hx.hold
theorem CM.taken {W w : World} {b h : Nat} {m o : Int} {vL : Value} {L : List (List Int)} {st : CSt} (k : CM W w b h m o vL L st) : Calls Try.prog 59 #[.pointer (some ⟨b, 0, none⟩)] w fun e w' => e = .returned (.int .u8 st.last) ∧ w' = w := by
  obtain ⟨sv, nv, hx, hR, hap⟩ := k.ex
  exact hx.taken
theorem CM.resends {W w : World} {b h : Nat} {m o : Int} {vL : Value} {L : List (List Int)} {st : CSt} (k : CM W w b h m o vL L st) : Calls Try.prog 49 #[.pointer (some ⟨b, 0, none⟩)] w fun e w' => e = .returned (.bool st.force) ∧ w' = w := by
  obtain ⟨sv, nv, hx, hR, hap⟩ := k.ex
  exact hx.resends
theorem CM.sent {W w : World} {b h : Nat} {m o : Int} {vL : Value} {L : List (List Int)} {st : CSt} (k : CM W w b h m o vL L st) : Calls Try.prog 24 #[.pointer (some ⟨h, 0, none⟩)] w fun e w' => e = .returned (.int .i64 st.ss.length) ∧ w' = w := by
  obtain ⟨sv, nv, hx, hR, hap⟩ := k.ex
  exact hx.hx.sent
theorem CM.fill {W w : World} {b h : Nat} {m o : Int} {vL : Value} {L : List (List Int)} {st : CSt} (k : CM W w b h m o vL L st) : Calls Try.prog 60 #[.pointer (some ⟨b, 0, none⟩)] w fun e w' => e = .returned (.agg (ucs st.last ((st.f + st.ss.length - 1) % 128) true true 0 (.slice none 0 0)).toArray) ∧ Below w.heap.size w w' := by
  obtain ⟨sv, nv, hx, hR, hap⟩ := k.ex
  exact hx.fill
/-- What a state is bound to. -/
structure CB (st : CSt) : Prop where
  last : 0 ≤ st.last ∧ st.last ≤ 127
  f : 0 ≤ st.f ∧ st.f ≤ 127
  pl : st.pl ≤ st.ss.length
  win : st.ss.length ≤ 127
  cnt : st.ss.length + st.ns.length ≤ 1000
  len : ∀ x ∈ st.ss ++ st.ns, 3 ≤ x.length ∧ x.length ≤ 273
theorem CM.bounds {W w : World} {b h : Nat} {m o : Int} {vL : Value} {L : List (List Int)} {st : CSt} (k : CM W w b h m o vL L st) : CB st := by
  obtain ⟨sv, nv, hx, hR, hap⟩ := k.ex
  exact ⟨hx.lst, hx.hx.fin, hx.inv, hx.hx.win, hx.hx.cnt, fun x h => hx.hx.len x (List.mem_append.1 h)⟩
/-- The reference's unit that says nothing. -/
theorem CM.rfill {W w : World} {b h : Nat} {m o : Int} {vL : Value} {L : List (List Int)} {st : CSt} (k : CM W w b h m o vL L st) (hL : L.length = st.ss.length + st.ns.length) : Calls Try.prog 61 #[.agg (sdS vL m o st).toArray] w fun e w' => e = .returned (.agg (ucs st.last ((st.f + st.ss.length - 1) % 128) true true 0 (.slice none 0 0)).toArray) ∧ Below w.heap.size w w' := by
  obtain ⟨a, c, rfl⟩ := k.rr.shape
  have hB := k.bounds
  have h1 := hB.last
  have h2 := hB.f
  have h3 := hB.win
  exact Go.Proofs.Ytadheikcgdhcdaa.rfill a L.length c (st.ss.length : Int) st.f m o (tC st) w ⟨h1.1, by show st.last ≤ 255; omega⟩ h2 (by omega)
/-- One is put. -/
theorem CM.rput {W w : World} {b h : Nat} {m o : Int} {vL : Value} {st : CSt} (k : CM W w b h m o vL (st.ss ++ st.ns) st) (v : Value) (x : List Int) (hv : Oct (only5 w) v x) (hx : x.length ≤ 1000) :
    Calls Try.prog 28 #[.agg (sdS vL m o st).toArray, v] w fun e w' => ∃ vL', e = .returned (.tuple #[.agg (sdS vL' m o st).toArray, .int .i64 (putCode m o st.ss st.ns x.length)]) ∧ CM W w' b h m o vL' (st.ss ++ (if putCode m o st.ss st.ns x.length = 0 then st.ns ++ [x] else st.ns)) st ∧ Below w.heap.size w w' := by
  have hB := k.bounds
  have hcnt : (st.ss ++ st.ns).length ≤ 1000 := by rw [List.length_append]; exact hB.cnt
  have h300 : ∀ x ∈ st.ss ++ st.ns, x.length ≤ 300 := fun x hx => by have := hB.len x hx; omega
  by_cases hc : putCode m o st.ss st.ns x.length = 0
  · rw [if_pos hc, hc]
    refine (rput_yes (only5 w) w vL (st.ss ++ st.ns) k.rr st.ss.length st.f m o (tC st) v x hv hcnt h300 hx (by rw [putR_eq]; exact hc)).mono ?_
    rintro e w' ⟨vL', rfl, h1, h2, h3⟩
    exact ⟨vL', rfl, k.row h2 (by rw [← List.append_assoc]; exact h1) (fun g hg => .inr (h3 g hg)), h2⟩
  · rw [if_neg hc]
    refine (rput_no (only5 w) w vL (st.ss ++ st.ns) k.rr st.ss.length st.f m o (tC st) v x (Oct5.to hv (K5.refl _)) hcnt h300 hx (by rw [putR_eq]; exact hc)).mono ?_
    rintro e w' ⟨rfl, h2⟩
    exact ⟨vL, by rw [putR_eq]; rfl, k.below h2, h2⟩
theorem CM.put {W w : World} {b h : Nat} {m o : Int} {vL : Value} {L : List (List Int)} {st : CSt} (k : CM W w b h m o vL L st) (v : Value) (x : List Int) (hx : Oct w v x) (hm : m ≤ 1000) :
    Calls Try.prog 21 #[.pointer (some ⟨h, 0, none⟩), v] w fun e w' => e = .returned (.int .i64 (putCode m o st.ss st.ns x.length)) ∧ CM W w' b h m o vL L { st with ns := if putCode m o st.ss st.ns x.length = 0 then st.ns ++ [x] else st.ns } ∧ KpC w w' := by
  obtain ⟨sv, nv, hk, hR, hap⟩ := k.ex
  refine (hk.put v x hx hm).mono ?_
  rintro e w' ⟨rfl, nv', r1, r2⟩
  exact ⟨rfl, k.step hk hR hap r1 r2, hk.kp r2⟩
end Go.Proofs.Ytadheikcgdhcdaa
