/- Printed by a program of this session out of the translation: the Go functions that a law uses as plain Lean functions, with the proofs of their calls, or the law's row.
Conditions: those that each theorem states. -/
import Derived.Test.YtbjkjoicecmmpabRows
import Derived.Test.YtbjkjoicecmmpabXFnExactSameRunx4
import Derived.Test.YtbjkjoicecmmpabPureFnExactSameRun
import Derived.Test.YtbjkjoicecmmpabXOpen
import Derived.WalkKit
import Derived.ProofKit
import Derived.OpenShut
import Derived.ShutString
import Derived.ChangeOld
import Derived.Below
import Derived.SizedLaws
namespace Go.Proofs.Ytbjkjoicecmmpab.fnExactSameRun
open Go.ChangeShapes Go.WideShapes Go.ChangeAt Go.RowKit Go.Proofs.YtbjkjoicecmmpabX Go.Proofs.YtbjkjoicecmmpabW.PrintWords
set_option linter.unusedVariables false
theorem own : ownKnob Try.prog.godebug = none := by kernel_rfl
theorem laidOut : laidOutB Try.prog = true := by kernel_rfl
set_option maxRecDepth 100000 in
theorem lifted (os : Os) (started : os.Started) (H : Type) (enc : TypeId × Value → H) :
    ReturnsInHanded {} Try.checked os 6 .any (Rows.fnExactSameRunSpec.pre6 enc Try.prog Try.f6 Rows.fnExactSameRunRow.domain false) (Rows.fnExactSameRunSpec.post enc Try.prog Try.f6 false true false false) := by
  refine returnsInHanded_of_change_sized (C := Try.checked) own started (by kernel_rfl) Try.func6
    (ChangeSpec.witness6 (enc := enc) (C := Try.checked) false ⟨#[], #[(.slice none 0 0), (.slice none 0 0), (.slice none 0 0), (.slice none 0 0)], []⟩ 8 (by kernel_rfl) (by kernel_rfl) (by kernel_rfl) (by kernel_rfl)) ?_
  intro W base args ds gs before hval0 hW hcnd hsz0 _
  have hval : ∀ (j : Nat) t v, Try.f6.params[j]? = some t → args[j]? = some v → Value.okWide Try.prog W .any base t v := hval0
  have hW' := hW
  obtain ⟨p, q, hA0, hV, rfl, hfz, hnd⟩ := hW
  have hA : DataW.TrodAll enc Try.prog W 0 (fun _ => true) true Try.f6.params.toList args.toList ds p := hA0
  rw [Try.params6] at hA hval
  obtain ⟨v0, vs0, d0, ds0, p0, q0, hargs, rfl, rfl, h0, r0⟩ := trodAll_cons hA
  obtain ⟨v1, vs1, d1, ds1, p1, q1, rfl, rfl, rfl, h1, r1⟩ := trodAll_cons r0
  obtain ⟨v2, vs2, d2, ds2, p2, q2, rfl, rfl, rfl, h2, r2⟩ := trodAll_cons r1
  obtain ⟨v3, vs3, d3, ds3, p3, q3, rfl, rfl, rfl, h3, r3⟩ := trodAll_cons r2
  obtain ⟨rfl, rfl, rfl⟩ := trodAll_nil r3
  obtain rfl : args = #[v0, v1, v2, v3] := by cases args; simp_all
  obtain ⟨rfl, rfl⟩ := trodVars_none hV
  have k0 := h0
  have lt0 : ∀ x ∈ p0, x.block < W.heap.size := by obtain ⟨m, hm⟩ := k0; exact DataW.trod_lt m _ _ _ hm
  obtain ⟨A0, c0, l0, hv0_, hl0, hC0, hm0, hw0⟩ := open_list Try.underlying33 (by kernel_rfl) (opens_slice 3 Try.underlying35 (by kernel_rfl) (opens_int Try.underlying3 (by kernel_rfl))) (hval 0 33 v0 rfl rfl) h0
  subst hv0_
  have k1 := h1
  have lt1 : ∀ x ∈ p1, x.block < W.heap.size := by obtain ⟨m, hm⟩ := k1; exact DataW.trod_lt m _ _ _ hm
  obtain ⟨A1, c1, l1, hv1_, hl1, hC1, hm1, hw1⟩ := open_list Try.underlying33 (by kernel_rfl) (opens_slice 3 Try.underlying35 (by kernel_rfl) (opens_int Try.underlying3 (by kernel_rfl))) (hval 1 33 v1 rfl rfl) h1
  subst hv1_
  have k2 := h2
  have lt2 : ∀ x ∈ p2, x.block < W.heap.size := by obtain ⟨m, hm⟩ := k2; exact DataW.trod_lt m _ _ _ hm
  obtain ⟨A2, c2, l2, hv2_, hl2, hC2, hm2, hw2⟩ := open_list Try.underlying33 (by kernel_rfl) (opens_slice 3 Try.underlying35 (by kernel_rfl) (opens_int Try.underlying3 (by kernel_rfl))) (hval 2 33 v2 rfl rfl) h2
  subst hv2_
  have k3 := h3
  have lt3 : ∀ x ∈ p3, x.block < W.heap.size := by obtain ⟨m, hm⟩ := k3; exact DataW.trod_lt m _ _ _ hm
  obtain ⟨A3, c3, l3, hv3_, hl3, hC3, hm3, hw3⟩ := open_list Try.underlying33 (by kernel_rfl) (opens_slice 3 Try.underlying35 (by kernel_rfl) (opens_int Try.underlying3 (by kernel_rfl))) (hval 3 33 v3 rfl rfl) h3
  subst hv3_
  clear hA0 hval0 hsz0
  obtain ⟨k, hk⟩ := Pure.FnExactSameRun l0 l1 l2 l3 hm0 hw0 hm1 hw1 hm2 hw2 hm3 hw3
  refine (XFnExactSameRun.laws_FnExactSameRun.calls k _ _ l0 _ _ l1 _ _ l2 _ _ l3 true W hC0 hl0 hC1 hl1 hC2 hl2 hC3 hl3 hk).mono fun e W' hpost => ?_
  obtain ⟨he, bel0⟩ := hpost
  have bel : Below W.heap.size W W' := bel0
  subst he
  exact ⟨_, rfl, _, _, _, [], _, [], hW', trodAll_mk1 (shut_bool Try.underlying4 _), (trodAll_cons_mk (Below.trod laidOut (by kernel_rfl) (of_decide_eq_true (by kernel_rfl)) k0 bel lt0) (trodAll_cons_mk (Below.trod laidOut (by kernel_rfl) (of_decide_eq_true (by kernel_rfl)) k1 bel lt1) (trodAll_cons_mk (Below.trod laidOut (by kernel_rfl) (of_decide_eq_true (by kernel_rfl)) k2 bel lt2) (trodAll_cons_mk (Below.trod laidOut (by kernel_rfl) (of_decide_eq_true (by kernel_rfl)) k3 bel lt3) trodAll_mk0)))), rfl, bel.frame _, fun h => by cases h⟩
theorem over : Rows.fnExactSameRunRow.holds Try.pinned (OpenSpec.ofChange Rows.fnExactSameRunSpec) :=
  OpenClaim.holds_of_wide 6 Try.f6 rfl rfl rfl rfl rfl rfl rfl ⟨rfl, rfl, rfl, rfl, rfl⟩ rfl rfl rfl rfl rfl (by kernel_rfl) Try.func6 (by kernel_rfl)
    (of_decide_eq_true (by kernel_rfl)) (by unfold Func.isWrapper; first | (rw [if_pos (by decide +kernel)]; kernel_rfl) | (rw [if_neg (by decide +kernel)]; exact ⟨rfl, rfl⟩))
    (fun os started H enc _ => lifted os started H enc)
theorem proved : Rows.FnExactSameRunSaid := over
#print axioms proved
end Go.Proofs.Ytbjkjoicecmmpab.fnExactSameRun
namespace Go.Proofs.Ytbjkjoicecmmpab
/-- The row, under a short name, for the claim. -/
theorem fnExactSameRun_holds : Rows.FnExactSameRunSaid := fnExactSameRun.proved
end Go.Proofs.Ytbjkjoicecmmpab
