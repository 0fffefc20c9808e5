/-
  UnitKeeps: what was handed in may be written over.
-/
import Derived.Test.YtpgalefpccgpfaaRows
import Derived.Test.YtpgalefpccgpfaaUnitKe
import Derived.Test.YtpgalefpccgpfaaFlat
import Derived.WalkKit
import Derived.ProofKit
import Derived.OpenShut
import Derived.ShutString
import Derived.ChangeOld
import Derived.Below
import Derived.SizedLaws
namespace Go.Proofs.Ytpgalefpccgpfaa.unitKeeps
open Go.ChangeShapes Go.WideShapes Go.ChangeAt Go.RowKit
open Go.ChangeMaps (open_string shut_string)
set_option linter.unusedVariables false
theorem laidOut : laidOutB Try.prog = true := by kernel_rfl
theorem own : ownKnob Try.prog.godebug = none := by kernel_rfl
set_option maxRecDepth 100000 in
theorem lifted (os : Os) (started : os.Started) (H : Type) (enc : TypeId × Value → H) :
    ReturnsInHanded {} Try.checked os 6 .any (Rows.unitKeepsSpec.pre6 enc Try.prog Try.f6 Rows.unitKeepsRow.domain false) (Rows.unitKeepsSpec.post enc Try.prog Try.f6 false true false false) := by
  refine returnsInHanded_of_change_sized (C := Try.checked) own started (by kernel_rfl) Try.func6
    (ChangeSpec.witness6 (enc := enc) (C := Try.checked) false ⟨#[], #[.agg #[.int .u8 0, .int .u8 0, .bool false, .bool false, .int .u8 0, .int .u8 0, .bool false, .slice none 0 0]], []⟩ 8 (by kernel_rfl) (by kernel_rfl) (by kernel_rfl) (by kernel_rfl)) ?_
  intro W base args ds gs before hval0 hW hcnd hsz0 _
  have hval : ∀ (j : Nat) t v, Try.f6.params[j]? = some t → args[j]? = some v → Value.okWide Try.prog W .any base t v := hval0
  have hW' := hW
  obtain ⟨p, q, hA0, hV, rfl, hfz, hnd⟩ := hW
  have hA : DataW.TrodAll enc Try.prog W 0 (fun _ => true) true Try.f6.params.toList args.toList ds p := hA0
  rw [Try.params6] at hA hval
  obtain ⟨v0, vs0, d0, ds0, p0, q0, hargs, rfl, rfl, h0, r0⟩ := trodAll_cons hA
  obtain ⟨rfl, rfl, rfl⟩ := trodAll_nil r0
  obtain rfl : args = #[v0] := by cases args; simp_all
  obtain ⟨rfl, rfl⟩ := trodVars_none hV
  have k0 := h0
  have lt0 : ∀ x ∈ p0, x.block < W.heap.size := by obtain ⟨m, hm⟩ := k0; exact DataW.trod_lt m _ _ _ hm
  obtain ⟨cs0, rfl, hc0⟩ := open_flat (d := 6) (ks := [.int .u8, .int .u8, .bool, .bool, .int .u8, .int .u8, .bool, .sl 22]) Try.underlying24 (by kernel_rfl) (hval 0 24 v0 rfl rfl) h0
  obtain ⟨_, _, rfl, ⟨b0_0, rfl, w0_0⟩, _, _, rfl, ⟨b0_1, rfl, w0_1⟩, _, _, rfl, ⟨b0_2, rfl⟩, _, _, rfl, ⟨b0_3, rfl⟩, _, _, rfl, ⟨b0_4, rfl, w0_4⟩, _, _, rfl, ⟨b0_5, rfl, w0_5⟩, _, _, rfl, ⟨b0_6, rfl⟩, b0_7, _, rfl, ⟨f0_7, y0_7, s0_7⟩,  rfl⟩ := hc0
  obtain ⟨a0_7, len0_7, cap0_7, z0_7, rfl, w0_7⟩ := open_row s0_7
  clear hA0 hval0 hsz0
  refine (keeps_row b0_0 b0_1 b0_2 b0_3 b0_4 b0_5 b0_6 a0_7 len0_7 cap0_7 z0_7 W (bounds_u8 w0_0) (bounds_u8 w0_1) (bounds_u8 w0_5) w0_7).mono fun e W' ⟨he, bel⟩ => ?_
  subst he
  exact ⟨_, rfl, _, _, _, [], _, [], hW', trodAll_mk1 (shut_bool Try.underlying4 _), (trodAll_cons_mk (Below.trod laidOut (by kernel_rfl) (of_decide_eq_true (by kernel_rfl)) k0 bel lt0) trodAll_mk0), rfl, bel.frame _, fun h => by cases h⟩
theorem over : Rows.unitKeepsRow.holds Try.pinned (OpenSpec.ofChange Rows.unitKeepsSpec) :=
  OpenClaim.holds_of_wide 6 Try.f6 rfl rfl rfl rfl rfl rfl rfl ⟨rfl, rfl, rfl, rfl, rfl⟩ rfl rfl rfl rfl rfl (by kernel_rfl) Try.func6 (by kernel_rfl)
    (of_decide_eq_true (by kernel_rfl)) (by unfold Func.isWrapper; first | (rw [if_pos (by decide +kernel)]; kernel_rfl) | (rw [if_neg (by decide +kernel)]; exact ⟨rfl, rfl⟩))
    (fun os started H enc _ => lifted os started H enc)
end Go.Proofs.Ytpgalefpccgpfaa.unitKeeps
namespace Go.Proofs.Ytpgalefpccgpfaa
theorem unitKeeps_holds : Rows.UnitKeepsSaid := unitKeeps.over
#print axioms unitKeeps_holds
end Go.Proofs.Ytpgalefpccgpfaa
