/- Printed by a program of this session out of the translation: the Go functions that a law uses as plain Lean functions, with the proofs of their calls, or the law's row.
Conditions: those that each theorem states. -/
import Derived.Test.YthphgkhmeobadacRows
import Derived.Test.YthphgkhmeobadacXFnExactCountModelsx5
import Derived.Test.YthphgkhmeobadacPureFnExactCountModels
import Derived.Test.YthphgkhmeobadacXOpen
import Derived.WalkKit
import Derived.ProofKit
import Derived.OpenShut
import Derived.ShutString
import Derived.ChangeOld
import Derived.Below
import Derived.SizedLaws
namespace Go.Proofs.Ythphgkhmeobadac.fnExactCountModels
open Go.ChangeShapes Go.WideShapes Go.ChangeAt Go.RowKit Go.Proofs.YthphgkhmeobadacX Go.Proofs.YthphgkhmeobadacW.PrintWords
set_option linter.unusedVariables false
theorem own : ownKnob Try.prog.godebug = none := by kernel_rfl
theorem laidOut : laidOutB Try.prog = true := by kernel_rfl
set_option maxRecDepth 100000 in
theorem lifted (os : Os) (started : os.Started) (H : Type) (enc : TypeId × Value → H) :
    ReturnsInHanded {} Try.checked os 3 .any (Rows.fnExactCountModelsSpec.pre6 enc Try.prog Try.f3 Rows.fnExactCountModelsRow.domain false) (Rows.fnExactCountModelsSpec.post enc Try.prog Try.f3 false true false false) := by
  refine returnsInHanded_of_change_sized (C := Try.checked) own started (by kernel_rfl) Try.func3
    (ChangeSpec.witness6 (enc := enc) (C := Try.checked) false ⟨#[], #[(.agg #[(.int .i64 0), (.slice none 0 0)])], []⟩ 8 (by kernel_rfl) (by kernel_rfl) (by kernel_rfl) (by kernel_rfl)) ?_
  intro W base args ds gs before hval0 hW hcnd hsz0 _
  have hval : ∀ (j : Nat) t v, Try.f3.params[j]? = some t → args[j]? = some v → Value.okWide Try.prog W .any base t v := hval0
  have hW' := hW
  obtain ⟨p, q, hA0, hV, rfl, hfz, hnd⟩ := hW
  have hA : DataW.TrodAll enc Try.prog W 0 (fun _ => true) true Try.f3.params.toList args.toList ds p := hA0
  rw [Try.params3] at hA hval
  obtain ⟨v0, vs0, d0, ds0, p0, q0, hargs, rfl, rfl, h0, r0⟩ := trodAll_cons hA
  obtain ⟨rfl, rfl, rfl⟩ := trodAll_nil r0
  obtain rfl : args = #[v0] := by cases args; simp_all
  obtain ⟨rfl, rfl⟩ := trodVars_none hV
  have k0 := h0
  have lt0 : ∀ x ∈ p0, x.block < W.heap.size := by obtain ⟨m, hm⟩ := k0; exact DataW.trod_lt m _ _ _ hm
  obtain ⟨cs0, y0, hv0, hK0, hw0⟩ := open_fields Try.underlying24 (by kernel_rfl) (opensF_cons rfl (opens_int Try.underlying3 (by kernel_rfl)) (opensF_last rfl (opens_slice 34 Try.underlying22 (by kernel_rfl) (opens_slice 3 Try.underlying34 (by kernel_rfl) (opens_int Try.underlying3 (by kernel_rfl)))))) (hval 0 24 v0 rfl rfl) h0
  obtain ⟨e0_0, g0_0, rfl, hk0_0, hK0⟩ := hK0
  have hk0_1 := hK0
  obtain rfl := hk0_0
  obtain ⟨A0_1, c0_1, rfl, hl0_1, hC0_1⟩ := hk0_1
  have hv0_ : v0 = .agg #[.int .i64 y0.1, .slice A0_1 y0.2.length c0_1] := hv0
  subst hv0_
  clear hA0 hval0 hsz0
  obtain ⟨k, hk⟩ := Pure.FnExactCountModels y0.1 y0.2 hw0.1 hw0.2.1 hw0.2.2
  refine (XFnExactCountModels.laws_FnExactCountModels.calls k y0.1 _ _ y0.2 true W hC0_1 hl0_1 hk).mono fun e W' hpost => ?_
  obtain ⟨he, bel0⟩ := hpost
  have bel : Below W.heap.size W W' := bel0
  subst he
  exact ⟨_, rfl, _, _, _, [], _, [], hW', trodAll_mk1 (shut_bool Try.underlying4 _), (trodAll_cons_mk (Below.trod laidOut (by kernel_rfl) (of_decide_eq_true (by kernel_rfl)) k0 bel lt0) trodAll_mk0), rfl, bel.frame _, fun h => by cases h⟩
theorem over : Rows.fnExactCountModelsRow.holds Try.pinned (OpenSpec.ofChange Rows.fnExactCountModelsSpec) :=
  OpenClaim.holds_of_wide 3 Try.f3 rfl rfl rfl rfl rfl rfl rfl ⟨rfl, rfl, rfl, rfl, rfl⟩ rfl rfl rfl rfl rfl (by kernel_rfl) Try.func3 (by kernel_rfl)
    (of_decide_eq_true (by kernel_rfl)) (by unfold Func.isWrapper; first | (rw [if_pos (by decide +kernel)]; kernel_rfl) | (rw [if_neg (by decide +kernel)]; exact ⟨rfl, rfl⟩))
    (fun os started H enc _ => lifted os started H enc)
theorem proved : Rows.FnExactCountModelsSaid := over
#print axioms proved
end Go.Proofs.Ythphgkhmeobadac.fnExactCountModels
namespace Go.Proofs.Ythphgkhmeobadac
/-- The row, under a short name, for the claim. -/
theorem fnExactCountModels_holds : Rows.FnExactCountModelsSaid := fnExactCountModels.proved
end Go.Proofs.Ythphgkhmeobadac
