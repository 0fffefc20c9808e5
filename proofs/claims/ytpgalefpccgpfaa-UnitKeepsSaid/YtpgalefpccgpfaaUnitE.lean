/-
  The units' encoding, with its octets.
-/
import Derived.Deep.RegionLawGrows
import Derived.Deep.AppendLies
import Derived.Lib.ConvBytes
import Derived.Lib.SmallJoins
import Derived.Test.YtpgalefpccgpfaaUnitR
namespace Go.Proofs.Ytpgalefpccgpfaa
open Go.RowKit
set_option linter.unusedVariables false
set_option linter.unusedSimpArgs false

theorem grown_below {w w2 w3 : World} (hg : w2.grownBy w3 none) (hB : Below w.heap.size w w2) : Below w.heap.size w w3 :=
  hB.trans (((Fr.refl (fun _ => False) w2).grown hg (by simp)).below hB.size (by simp))
theorem info5 : (Try.prog.info? 5).map (fun i => (i.zero, i.size, i.bytes)) = some (some (.int .u8 0), 1, 1) := by kernel_rfl
theorem info_parts {t : TypeId} {z : Option Value} {n m : Nat} (h : (Try.prog.info? t).map (fun i => (i.zero, i.size, i.bytes)) = some (z, n, m)) : ∃ i, Try.prog.info? t = some i ∧ i.zero = z ∧ i.size = n ∧ i.bytes = m := by
  obtain ⟨i, hi, he⟩ := Option.map_eq_some_iff.1 h
  simp only [Prod.mk.injEq] at he
  exact ⟨i, hi, he.1, he.2.1, he.2.2⟩
/-- The fresh three octets, and a row behind them: a new row. -/
theorem append_own {w : World} {ops : Array Oper} {o : Oper} {a : Act} {K : Act → World → Prop} {Q : Exit → Act → World → Prop} {E : Prop} (hg : o.guard = none) (s x : Operand)
    (hop : o.op = Op.call { callee := Callee.builtin Builtin.append, args := #[s, x], argTypes := #[22, 22] })
    (q : Nat) (hs : a.eval s = .slice (some ⟨q, 0, none⟩) 3 3) (cs : Array Value) (hB0 : w.heap[q]? = some (.cells cs 5 (0, 0))) (hlo : cs.toList.length = 3)
    (ad : Addr) (m c : Nat) (news : List Value) (hx : a.eval x = .slice (some ad) m c) (hm0 : 0 < m) (hm : m ≤ 400) (hn : news.length = m * 1) (hc : ∀ j u, news[j]? = some u → w.cell? (ad.add j) = some u) (h1 : ∀ u ∈ news, u.oneCell' = true)
    (hK : ∀ v' w', w'.ownsRow w.heap.size 5 1 v' (3 + m) (cs.toList ++ news) → w.grownBy w' none → K (a.put o.dst v') w') :
    if Region.wanted o (yielded ops a.tmps) = true then Oper.wp Try.prog o a w K Q else E := by
  have hB : Blk w q cs.toList 5 := by unfold Blk; simpa using hB0
  obtain ⟨i0, hi, hz0, hz1, hz2⟩ := info_parts info5
  exact step_append_grows hg s x 22 hop 5 i0 (.int .u8 0) 1 1 Try.underlying22 hi hz0 hz1 hz2 rfl (by decide) (some ⟨q, 0, none⟩) 3 3 cs.toList hs (fun h => by cases h) (by omega)
    (fun b e j u hj => by cases e; rw [Addr.add_lit, Nat.zero_add]; exact hB.cell j hj) ad m c news hx hn hc h1 (by omega) (by unfold maxLen; omega) (by omega) hK

def bitV (n : Int) (o : Bool) : Int := if o then bits .or .u8 (n % 128) 128 else n % 128
theorem bit_is (n : Int) (h0 : 0 ≤ n) (o : Bool) (w : World) : Calls Try.prog 21 #[.int .u8 n, .bool o] w fun e w' => e = .returned (.int .u8 (bitV n o)) ∧ w = w' := by
  cases o
  · go_enter Try.func21, Try.ntmps21
    go_wp2
    go_ret
    exact ⟨rfl, rfl⟩
  · go_enter Try.func21, Try.ntmps21
    go_wp2
    go_ret
    exact ⟨rfl, rfl⟩

/-- A row with what stands in it, that may be appended: nil, or cells. -/
def Rowv (w : World) (x : Option Addr) (m : Nat) (news : List Value) : Prop := news.length = m ∧ (∀ u ∈ news, u.oneCell' = true) ∧ ((m = 0 ∧ x = none) ∨ ∃ ad, x = some ad ∧ 0 < m ∧ ∀ j u, news[j]? = some u → w.cell? (ad.add j) = some u)
theorem Rowv.below {w w' : World} {x : Option Addr} {m : Nat} {news : List Value} (h : Rowv w x m news) (hb : Below w.heap.size w w') : Rowv w' x m news := by
  rcases h with ⟨h1, h2, h | ⟨ad, h3, h4, h5⟩⟩
  · exact ⟨h1, h2, .inl h⟩
  · refine ⟨h1, h2, .inr ⟨ad, h3, h4, fun j u hj => ?_⟩⟩
    have h6 := h5 j u hj
    rw [← h6]
    exact hb.cell (World.block_lt_of_cell? _ _ h6)
theorem Rowv.new (w : World) (vs : List Value) (T : TypeId) (h : 0 < vs.length) (h1 : ∀ u ∈ vs, u.oneCell' = true) : Rowv (w.alloc (.cells vs.toArray T (0, 0))) (some ⟨w.heap.size, 0, none⟩) vs.length vs :=
  ⟨rfl, h1, .inr ⟨_, rfl, h, fun j u hj => by have := (Blk.new w vs T).cell j hj; simpa [Addr.add_lit] using this⟩⟩

def bodyV (k s : Int) (wd : Bool) (infos : List Value) : List Value := if k = 1 then (if wd then [.int .u8 s, .int .u8 0] else [.int .u8 s]) else if k = 2 then infos else []
def BodyPost (w : World) (news : List Value) (e : Ending) (w' : World) : Prop := ∃ x c, e = .returned (.slice x news.length c) ∧ Below w.heap.size w w' ∧ Rowv w' x news.length news

theorem body_link' (b f : Int) (bi fi : Bool) (s : Int) (wd : Bool) (a : Option Addr) (len cap : Nat) (infos : List Value) (w : World) : Calls Try.prog 20 #[.agg #[.int .u8 b, .int .u8 f, .bool bi, .bool fi, .int .u8 1, .int .u8 s, .bool wd, .slice a len cap]] w (BodyPost w (bodyV 1 s wd infos)) := by
  cases wd
  · go_enter Try.func20, Try.ntmps20
    go_wp2
    go_ret
    exact ⟨_, _, rfl, ((Below.refl _ _).alloc (Nat.le_refl _) _).alloc (by simp) _, by simpa [bodyV] using Rowv.new (w.alloc (.cells #[.int .u8 b, .int .u8 f, .bool bi, .bool fi, .int .u8 1, .int .u8 s, .bool false, .slice a len cap] 24)) [.int .u8 s] 5 (by simp) (by simp [Value.oneCell'])⟩
  · go_enter Try.func20, Try.ntmps20
    go_wp2
    go_ret
    exact ⟨_, _, rfl, ((Below.refl _ _).alloc (Nat.le_refl _) _).alloc (by simp) _, by simpa [bodyV] using Rowv.new (w.alloc (.cells #[.int .u8 b, .int .u8 f, .bool bi, .bool fi, .int .u8 1, .int .u8 s, .bool true, .slice a len cap] 24)) [.int .u8 s, .int .u8 0] 5 (by simp) (by simp [Value.oneCell'])⟩
theorem body_signal' (b f : Int) (bi fi : Bool) (s : Int) (wd : Bool) (a : Option Addr) (len cap : Nat) (infos : List Value) (w : World) (hr : Rowv w a len infos) : Calls Try.prog 20 #[.agg #[.int .u8 b, .int .u8 f, .bool bi, .bool fi, .int .u8 2, .int .u8 s, .bool wd, .slice a len cap]] w (BodyPost w (bodyV 2 s wd infos)) := by
  go_enter Try.func20, Try.ntmps20
  go_wp2
  go_ret
  rw [show bodyV 2 s wd infos = infos from rfl]
  obtain rfl := hr.1
  exact ⟨_, _, rfl, (Below.refl _ _).alloc (Nat.le_refl _) _, hr.below ((Below.refl _ _).alloc (Nat.le_refl _) _)⟩
theorem body_fill' (b f : Int) (bi fi : Bool) (k s : Int) (h1 : k ≠ 1) (h2 : k ≠ 2) (wd : Bool) (a : Option Addr) (len cap : Nat) (infos : List Value) (w : World) : Calls Try.prog 20 #[.agg #[.int .u8 b, .int .u8 f, .bool bi, .bool fi, .int .u8 k, .int .u8 s, .bool wd, .slice a len cap]] w (BodyPost w (bodyV k s wd infos)) := by
  have e1 : (k == 1) = false := by simp [h1]
  have e2 : (k == 2) = false := by simp [h2]
  go_enter Try.func20, Try.ntmps20
  go_wp2
  go_ret
  rw [show bodyV k s wd infos = [] from by simp [bodyV, h1, h2]]
  exact ⟨none, 0, rfl, (Below.refl _ _).alloc (Nat.le_refl _) _, rfl, by simp, .inl ⟨rfl, rfl⟩⟩
theorem body_is (b f : Int) (bi fi : Bool) (k s : Int) (wd : Bool) (a : Option Addr) (len cap : Nat) (infos : List Value) (w : World) (hr : k = 2 → Rowv w a len infos) : Calls Try.prog 20 #[.agg #[.int .u8 b, .int .u8 f, .bool bi, .bool fi, .int .u8 k, .int .u8 s, .bool wd, .slice a len cap]] w (BodyPost w (bodyV k s wd infos)) := by
  by_cases h1 : k = 1
  · subst h1; exact body_link' b f bi fi s wd a len cap infos w
  by_cases h2 : k = 2
  · subst h2; exact body_signal' b f bi fi s wd a len cap infos w (hr rfl)
  exact body_fill' b f bi fi k s h1 h2 wd a len cap infos w

def encV (b f : Int) (bi fi : Bool) (news : List Value) : List Value := [.int .u8 (bitV b bi), .int .u8 (bitV f fi), .int .u8 (if 63 < news.length then 63 else news.length)] ++ news

def EncPost (w : World) (b f : Int) (bi fi : Bool) (news : List Value) (e : Ending) (w' : World) : Prop := ∃ v, e = .returned (.tuple #[v, .int .i64 0]) ∧ w'.ownsRow w.heap.size 5 1 v (3 + news.length) (encV b f bi fi news) ∧ Below w.heap.size w w'
theorem wrap_small (n : Int) (h0 : 0 ≤ n) (h1 : n < 256) : IntKind.u8.wrap n = n := by
  simp [IntKind.wrap, IntKind.bits, IntKind.signed]
  omega
theorem own_mono {w : World} {base base' : Nat} {e : TypeId} {size : Nat} {v : Value} {n : Nat} {xs : List Value} (h : w.ownsRow base e size v n xs) (hb : base' ≤ base) : w.ownsRow base' e size v n xs := by
  rcases h with ⟨h1, h2 | ⟨g, cap, cur, h2, h3, h4⟩⟩
  · exact ⟨h1, .inl h2⟩
  · exact ⟨h1, .inr ⟨g, cap, cur, h2, Nat.le_trans hb h3, h4⟩⟩
theorem enc_close {w W w3 : World} {b f : Int} {bi fi : Bool} {cs : Array Value} {news : List Value} {m : Nat} {v' : Value} (hm' : news.length = m) (hown : w3.ownsRow W.heap.size 5 1 v' (3 + m) (cs.toList ++ news)) (hgrow : W.grownBy w3 none) (hB : Below w.heap.size w W)
    (hcs : cs.toList = [.int .u8 (bitV b bi), .int .u8 (bitV f fi), .int .u8 (if 63 < m then 63 else m)]) : EncPost w b f bi fi news (.returned (.tuple #[v', .int .i64 0])) w3 := by
  subst hm'
  refine ⟨_, rfl, ?_, grown_below hgrow hB⟩
  rw [hcs] at hown
  exact own_mono hown hB.size

set_option maxHeartbeats 2000000 in
theorem encode_is0 (news : List Value) (b f : Int) (hb0 : 0 ≤ b) (hf0 : 0 ≤ f) (bi fi : Bool) (k s : Int) (wd : Bool) (a : Option Addr) (len cap : Nat) (infos : List Value) (w : World) (hr : k = 2 → Rowv w a len infos) (h : rightV b f k s len = 0) (hnews : bodyV k s wd infos = news) : Calls Try.prog 10 #[.agg #[.int .u8 b, .int .u8 f, .bool bi, .bool fi, .int .u8 k, .int .u8 s, .bool wd, .slice a len cap]] w (EncPost w b f bi fi news) := by
  have hl : news.length ≤ 400 := by
    rw [← hnews]
    unfold bodyV
    split
    · split <;> simp
    · split
      · rename_i h2
        have := (hr h2).1
        rw [this]
        unfold rightV at h
        split at h
        · cases h
        · split at h
          · cases h
          · split at h
            · cases h
            · omega
      · simp
  go_enter Try.func10, Try.ntmps10
  go_wp2_with fail
  refine (right_any _ _ _ _ _ _ _ _ _ _ _).mono ?_
  rintro e w1 ⟨rfl, hb⟩
  rw [h]
  have hB : Below w.heap.size w w1 := ((Below.refl _ _).alloc (Nat.le_refl _) _).trans (hb.mono (by simp))
  have hr1 : k = 2 → Rowv w1 a len infos := fun e => (hr e).below hB
  have hK := (Blk.new w [.int .u8 b, .int .u8 f, .bool bi, .bool fi, .int .u8 k, .int .u8 s, .bool wd, .slice a len cap] 24).below hb
  have c0 := hK.cell 0 rfl
  have c1 := hK.cell 1 rfl
  have c2 := hK.cell 2 rfl
  have c3 := hK.cell 3 rfl
  have c4 := hK.cell 4 rfl
  have c5 := hK.cell 5 rfl
  have c6 := hK.cell 6 rfl
  have c7 := hK.cell 7 rfl
  go_wp2_with fail
  refine (body_is _ _ _ _ _ _ _ _ _ _ infos _ hr1).mono ?_
  rw [hnews]
  obtain ⟨m, hm'⟩ : ∃ m, news.length = m := ⟨_, rfl⟩
  have hm : m ≤ 400 := by omega
  rintro e w2 ⟨x, c, rfl, hb2, hn', h1, hR⟩
  rw [hm'] at hR ⊢
  have hn : news.length = m * 1 := by omega
  replace hK := hK.below hb2
  replace hB := bthen hB hb2
  have hsz := hB.size
  clear c0 c1 c2 c3 c4 c5 c6 c7 hb hr1 hb2 hr
  have c0 := hK.cell 0 rfl
  have c1 := hK.cell 1 rfl
  have c2 := hK.cell 2 rfl
  have c3 := hK.cell 3 rfl
  have hBB := hB
  clear hB hK h
  have n0 := World.new_ne w2 _ c0
  rcases hR with ⟨hm00, rfl⟩ | ⟨ad, rfl, hm0, hc⟩
  · go_upto_region 5 with fail
    go_region_held3 (fun w' => w'.cell? ⟨w.heap.size, 0, none⟩ = some (.int .u8 b) ∧ w'.cell? ⟨w.heap.size, 1, none⟩ = some (.int .u8 f) ∧ w'.cell? ⟨w.heap.size, 2, none⟩ = some (.bool bi) ∧ w'.cell? ⟨w.heap.size, 3, none⟩ = some (.bool fi)) (go_keep) (first | (go_at_call 21; refine (bit_is _ (by assumption) _ _).mono ?_; rintro e w' ⟨rfl, rfl⟩))
    all_goals go_wp2
    all_goals (refine bodyPost_ret (results_tmp2 rfl _ _ _) rfl ?_)
    all_goals refine ⟨_, rfl, ?_, below_drewN (hBB.alloc hsz _) 1⟩
    all_goals (obtain rfl := List.eq_nil_of_length_eq_zero (hm'.trans hm00); exact World.ownsRow_lit (size := 1) (e := 5) w2 _ 3 hsz (by decide) (by rfl))
  · have hc' : ∀ o, ∀ j u, news[j]? = some u → ((w2.alloc o).drew).cell? (ad.add j) = some u := fun o j u hj => by
      have := hc j u hj
      show (w2.alloc o).cell? _ = _
      rw [World.cell?_alloc_lt _ _ _ (World.block_lt_of_cell? _ _ this)]; exact this
    have hE0 : ∀ cs : Array Value, ((w2.alloc (.cells cs 5)).drew).heap[w2.heap.size]? = some (.cells cs 5 (0, 0)) := fun cs => by
      show (w2.heap.push _)[w2.heap.size]? = _
      simp
    rcases Nat.lt_trichotomy m 63 with g | g | g
    · have g1 : (m : Int) < 63 := by omega
      go_upto_region 5 with fail
      go_region_held3 (fun w' => w'.cell? ⟨w.heap.size, 0, none⟩ = some (.int .u8 b) ∧ w'.cell? ⟨w.heap.size, 1, none⟩ = some (.int .u8 f) ∧ w'.cell? ⟨w.heap.size, 2, none⟩ = some (.bool bi) ∧ w'.cell? ⟨w.heap.size, 3, none⟩ = some (.bool fi)) (first | go_keep | (refine ⟨?_, ?_, ?_, ?_⟩ <;> (rw [hgrow.cell_far _ (by simp; omega) (by simp)]; simp [*])))
        (first | (go_at_call 21; refine (bit_is _ (by assumption) _ _).mono ?_; rintro e w' ⟨rfl, rfl⟩) | (refine append_own (by rfl) _ _ (by rfl) _ (by rfl) _ (hE0 _) (by rfl) ad m c news (by rfl) hm0 hm hn (hc' _) h1 ?_; intro v' w3 hown hgrow))
      all_goals go_wp2
      all_goals (refine bodyPost_ret (results_tmp2 rfl _ _ _) rfl ?_)
      all_goals exact enc_close hm' hown hgrow (below_drewN (hBB.alloc hsz _) 1) (by simp; first | done | (rw [wrap_small _ (by first | omega | (split <;> omega)) (by first | omega | (split <;> omega))]; first | done | omega | (split <;> omega)))
    · subst g
      go_upto_region 5 with fail
      go_region_held3 (fun w' => w'.cell? ⟨w.heap.size, 0, none⟩ = some (.int .u8 b) ∧ w'.cell? ⟨w.heap.size, 1, none⟩ = some (.int .u8 f) ∧ w'.cell? ⟨w.heap.size, 2, none⟩ = some (.bool bi) ∧ w'.cell? ⟨w.heap.size, 3, none⟩ = some (.bool fi)) (first | go_keep | (refine ⟨?_, ?_, ?_, ?_⟩ <;> (rw [hgrow.cell_far _ (by simp; omega) (by simp)]; simp [*])))
        (first | (go_at_call 21; refine (bit_is _ (by assumption) _ _).mono ?_; rintro e w' ⟨rfl, rfl⟩) | (refine append_own (by rfl) _ _ (by rfl) _ (by rfl) _ (hE0 _) (by rfl) ad _ c news (by rfl) hm0 hm hn (hc' _) h1 ?_; intro v' w3 hown hgrow))
      all_goals go_wp2
      all_goals (refine bodyPost_ret (results_tmp2 rfl _ _ _) rfl ?_)
      all_goals exact enc_close hm' hown hgrow (below_drewN (hBB.alloc hsz _) 1) (by simp; first | done | (rw [wrap_small _ (by first | omega | (split <;> omega)) (by first | omega | (split <;> omega))]; first | done | omega | (split <;> omega)))
    · have g1 : (63 : Int) < m := by omega
      have g2 : (63 : Int) ≤ m := by omega
      go_upto_region 5 with fail
      go_region_held3 (fun w' => w'.cell? ⟨w.heap.size, 0, none⟩ = some (.int .u8 b) ∧ w'.cell? ⟨w.heap.size, 1, none⟩ = some (.int .u8 f) ∧ w'.cell? ⟨w.heap.size, 2, none⟩ = some (.bool bi) ∧ w'.cell? ⟨w.heap.size, 3, none⟩ = some (.bool fi)) (first | go_keep | (refine ⟨?_, ?_, ?_, ?_⟩ <;> (rw [hgrow.cell_far _ (by simp; omega) (by simp)]; simp [*])))
        (first | (go_at_call 21; refine (bit_is _ (by assumption) _ _).mono ?_; rintro e w' ⟨rfl, rfl⟩) | (refine append_own (by rfl) _ _ (by rfl) _ (by rfl) _ (hE0 _) (by rfl) ad m c news (by rfl) hm0 hm hn (hc' _) h1 ?_; intro v' w3 hown hgrow))
      all_goals go_wp2
      all_goals (refine bodyPost_ret (results_tmp2 rfl _ _ _) rfl ?_)
      all_goals exact enc_close hm' hown hgrow (below_drewN (hBB.alloc hsz _) 1) (by simp; first | done | (rw [wrap_small _ (by first | omega | (split <;> omega)) (by first | omega | (split <;> omega))]; first | done | omega | (split <;> omega)))
theorem encode_is (b f : Int) (hb0 : 0 ≤ b) (hf0 : 0 ≤ f) (bi fi : Bool) (k s : Int) (wd : Bool) (a : Option Addr) (len cap : Nat) (infos : List Value) (w : World) (hr : k = 2 → Rowv w a len infos) (h : rightV b f k s len = 0) : Calls Try.prog 10 #[.agg #[.int .u8 b, .int .u8 f, .bool bi, .bool fi, .int .u8 k, .int .u8 s, .bool wd, .slice a len cap]] w (EncPost w b f bi fi (bodyV k s wd infos)) :=
  encode_is0 _ b f hb0 hf0 bi fi k s wd a len cap infos w hr h rfl
end Go.Proofs.Ytpgalefpccgpfaa
