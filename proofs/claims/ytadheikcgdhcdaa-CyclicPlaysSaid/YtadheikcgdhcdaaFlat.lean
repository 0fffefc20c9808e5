/-
  A value of a type of scalars (structs and arrays of these, at any depth; slices as leaves): its cells, one by one, off its reading. For opening a law's arguments.
-/
import Derived.WalkKit
import Derived.ProofKit
import Derived.OpenShut
import Derived.ChangeArms
import Derived.Deep.Slices
namespace Go.Proofs.Ytadheikcgdhcdaa
open Go.RowKit Go.ChangeShapes Go.WideShapes
set_option linter.unusedVariables false
set_option linter.unusedSimpArgs false

/-- The kinds of cells that a law's argument has. -/
inductive CK where
  | int (k : IntKind)
  | bool
  | sl (t : TypeId)

def CK.ok {H : Type} (enc : TypeId × Value → H) (P : Program) (w : World) (base : Nat) (spare : Nat → Bool) (held : Bool) : CK → Value → Prop
  | .int k, v => ∃ n, v = .int k n ∧ (Lit.int k n).wf = true
  | .bool, v => ∃ b, v = .bool b
  | .sl t, v => ∃ fuel y, DataW.trod enc P w base spare held fuel t [v] = some y

/-- The fields' cells, from an offset on. -/
def flatFields (f : TypeId → Option (List CK)) (P : Program) : List Field → Nat → Option (List CK)
  | [], _ => some []
  | x :: l, o => if x.offset = o then (f x.type).bind fun ks => if ks.length = P.cellsOf x.type then (flatFields f P l (o + ks.length)).map (ks ++ ·) else none else none

def flat (P : Program) : Nat → TypeId → Option (List CK)
  | 0, _ => none
  | d + 1, t => match P.underlying t with
    | some (.int k) => some [.int k]
    | some .bool => some [.bool]
    | some (.slice _) => some [.sl t]
    | some (.array n e) => (flat P d e).bind fun ks => if ks.length = P.cellsOf e ∧ P.cellsOf t = n * ks.length then some (List.replicate n ks).flatten else none
    | some (.struct fs) => (flatFields (flat P d) P fs.toList 0).bind fun ks => if ks.length = P.cellsOf t then some ks else none
    | _ => none

/-- All cells are of their kinds. -/
def Cks {H : Type} (enc : TypeId × Value → H) (P : Program) (w : World) (base : Nat) (spare : Nat → Bool) (held : Bool) : List CK → List Value → Prop
  | [], cs => cs = []
  | k :: ks, cs => ∃ v r, cs = v :: r ∧ k.ok enc P w base spare held v ∧ Cks enc P w base spare held ks r

section
variable {H : Type} {enc : TypeId × Value → H} {P : Program} {w : World} {base : Nat} {spare : Nat → Bool} {held : Bool}

theorem Cks.length : ∀ {ks : List CK} {cs : List Value}, Cks enc P w base spare held ks cs → cs.length = ks.length
  | [], cs, h => by rw [show cs = [] from h]; rfl
  | k :: ks, cs, ⟨v, r, e, _, h⟩ => by rw [e, List.length_cons, List.length_cons, Cks.length h]

theorem Cks.append : ∀ {ks ks' : List CK} {cs cs' : List Value}, Cks enc P w base spare held ks cs → Cks enc P w base spare held ks' cs' → Cks enc P w base spare held (ks ++ ks') (cs ++ cs')
  | [], ks', cs, cs', h, h' => by rw [show cs = [] from h]; exact h'
  | k :: ks, ks', cs, cs', ⟨v, r, e, h1, h⟩, h' => ⟨v, r ++ cs', by rw [e]; rfl, h1, Cks.append h h'⟩

theorem flatFields_ok (f : TypeId → Option (List CK)) (n : Nat) (cs : List Value)
    (hf : ∀ t ks cs x, f t = some ks → DataW.trod enc P w base spare held n t cs = some x → Cks enc P w base spare held ks cs) :
    ∀ (l : List Field) (o : Nat) (ks : List CK), flatFields f P l o = some ks → (∀ x ∈ l, ∃ y, DataW.trod enc P w base spare held n x.type ((cs.drop x.offset).take (P.cellsOf x.type)) = some y) →
      Cks enc P w base spare held ks ((cs.drop o).take ks.length)
  | [], o, ks, h, _ => by
    simp [flatFields] at h
    subst h
    simp [Cks]
  | x :: l, o, ks, h, hr => by
    unfold flatFields at h
    split at h
    · rename_i ho
      simp only [Option.bind_eq_some_iff] at h
      obtain ⟨k1, e1, h⟩ := h
      split at h
      · rename_i hl
        simp only [Option.map_eq_some_iff] at h
        obtain ⟨k2, e2, rfl⟩ := h
        obtain ⟨y, hy⟩ := hr x (by simp)
        have h1 := hf _ _ _ _ e1 hy
        have h2 := flatFields_ok f n cs hf l _ k2 e2 (fun z hz => hr z (by simp [hz]))
        rw [ho, ← hl] at h1
        have := h1.append h2
        rw [List.length_append, List.take_add, List.drop_drop]
        exact this
      · cases h
    · cases h

theorem array_ok (ks : List CK) (cs : List Value) (n : Nat) : ∀ (i : Nat), (∀ j, i ≤ j → j < i + n → Cks enc P w base spare held ks ((cs.drop (j * ks.length)).take ks.length)) →
    Cks enc P w base spare held (List.replicate n ks).flatten ((cs.drop (i * ks.length)).take (n * ks.length)) := by
  induction n with
  | zero => intro i _; simp [Cks]
  | succ n ih =>
    intro i h
    have h1 := h i (Nat.le_refl _) (by omega)
    have h2 := ih (i + 1) (fun j hj hk => h j (by omega) (by omega))
    have := h1.append h2
    rw [List.replicate_succ, List.flatten_cons]
    rw [show (i + 1) * ks.length = i * ks.length + ks.length from by rw [Nat.add_mul, Nat.one_mul]] at this
    rw [show (n + 1) * ks.length = ks.length + n * ks.length from by rw [Nat.add_mul, Nat.one_mul, Nat.add_comm], List.take_add, List.drop_drop]
    exact this

theorem flat_ok (d : Nat) : ∀ (t : TypeId) (ks : List CK) (fuel : Nat) (cs : List Value) (x : DataW H × List MemPlace), flat P d t = some ks → DataW.trod enc P w base spare held fuel t cs = some x → Cks enc P w base spare held ks cs := by
  induction d with
  | zero => intro t ks fuel cs x h; cases h
  | succ d ih =>
    intro t ks fuel cs x h hx
    unfold flat at h
    split at h
    · rename_i k hk
      simp only [Option.some.injEq] at h
      subst h
      obtain ⟨n, e, _, hw⟩ := DataW.trod_int hk hx
      exact ⟨_, [], by simpa using e, ⟨n, rfl, hw⟩, rfl⟩
    · rename_i hk
      simp only [Option.some.injEq] at h
      subst h
      obtain ⟨b, e, _⟩ := DataW.trod_bool hk hx
      exact ⟨_, [], by simpa using e, ⟨b, rfl⟩, rfl⟩
    · rename_i e hk
      simp only [Option.some.injEq] at h
      subst h
      rcases DataW.trod_slice hk hx with ⟨hc, _⟩ | ⟨a, len, cap, _, _, _, _, hc, _⟩
      · exact ⟨_, [], hc, ⟨fuel, x, by rw [← hc]; exact hx⟩, rfl⟩
      · exact ⟨_, [], hc, ⟨fuel, x, by rw [← hc]; exact hx⟩, rfl⟩
    · rename_i n e hk
      simp only [Option.bind_eq_some_iff] at h
      obtain ⟨k1, e1, h⟩ := h
      split at h
      · rename_i hl
        simp only [Option.some.injEq] at h
        subst h
        obtain ⟨xs, m, _, _, hlen, hxl, hi⟩ := DataW.trod_array hk hx
        have := array_ok (enc := enc) (P := P) (w := w) (base := base) (spare := spare) (held := held) k1 cs n 0 (fun j _ hj => by
          have hj := hi j (by omega)
          rw [← hl.1] at hj
          have hlt : j < xs.length := by omega
          rw [List.getElem?_eq_getElem hlt] at hj
          exact ih _ _ _ _ _ e1 hj)
        rw [Nat.zero_mul, List.drop_zero, List.take_of_length_le (by omega)] at this
        exact this
      · cases h
    · rename_i fs hk
      simp only [Option.bind_eq_some_iff] at h
      obtain ⟨k1, e1, h⟩ := h
      split at h
      · rename_i hl
        simp only [Option.some.injEq] at h
        subst h
        obtain ⟨xs, m, _, _, hlen, hxl, hi⟩ := DataW.trod_struct hk hx
        have := flatFields_ok (enc := enc) (P := P) (w := w) (base := base) (spare := spare) (held := held) (flat P d) m cs (fun t ks cs x => ih t ks m cs x) fs.toList 0 k1 e1 (fun f hf => by
          obtain ⟨i, hi1, hi2⟩ := List.getElem_of_mem hf
          have hq : fs[i]? = some f := by rw [← hi2]; simp at hi1 ⊢
          have hj := hi i f hq
          have hlt : i < xs.length := by have := (Array.getElem?_eq_some_iff.1 hq).1; omega
          rw [List.getElem?_eq_getElem hlt] at hj
          exact ⟨_, hj⟩)
        rw [List.drop_zero, List.take_of_length_le (by omega)] at this
        exact this
      · cases h
    · cases h

/-- A struct that came in by value: its cells. -/
theorem open_flat {r : Reach} {b0 d : Nat} {t : TypeId} {fs : Array Field} {ks : List CK} {v : Value} {x : DataW H} {p : List MemPlace} (hs : P.underlying t = some (.struct fs)) (hk : flat P d t = some ks)
    (hv : Value.okWide P w r b0 t v) (h : DataW.Trod enc P w base spare held t v x p) : ∃ cs : List Value, v = .agg cs.toArray ∧ Cks enc P w base spare held ks cs := by
  obtain ⟨cs, rfl, hsz⟩ := okWide_struct hs hv
  obtain ⟨fuel, hf⟩ := h
  exact ⟨cs.toList, by simp, flat_ok d t ks fuel cs.toList (x, p) hk (by simpa [Value.cells] using hf)⟩
end
end Go.Proofs.Ytadheikcgdhcdaa
