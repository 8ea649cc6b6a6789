/- Printed by a program of this session out of the translation: the Go functions that a law uses as plain Lean functions, with the proofs of their calls, or the law's row.
Conditions: those that each theorem states. -/
import Derived.Test.YthphgkhmeobadaaXFnExactAddAndx0
import Derived.Test.YthphgkhmeobadaaXFnExactAddAndx1
import Derived.Test.YthphgkhmeobadaaXFnExactAddAndx3
import Derived.Test.YthphgkhmeobadaaXFnExactAddAndx7
import Derived.Test.YthphgkhmeobadaaXFnExactAddAndx8
namespace Go.Proofs.Ythphgkhmeobadaa.XFnExactAddAnd
open Go.RowKit Go.Proofs.YthphgkhmeobadaaW.PrintWords Go.Proofs.YthphgkhmeobadaaW.PrintLast Go.Proofs.YthphgkhmeobadaaW.PrintMore
attribute [local go_sem] max2_int min2_int max_two min_two max_three min_three max_four min_four   -- for this text's walks alone
set_option linter.unusedVariables false
set_option linter.unusedSimpArgs false

/-! ### laws_FnExactAddAnd: function 3 -/
mutual
def laws_FnExactAddAnd.j0 : Nat → Int → Int → Int → Int → Bool → Int → List (S63) → Int → List (S57) → Int → List (S57) → Int → List (S57) → Option (Bool)
  | 0, _, _, _, _, _, _, _, _, _, _, _, _, _ => none
  | k + 1, x1, x2, x9, x12, x48, x194000, x194001, x205000, x205001, x210000, x210001, x216000, x216001 => if x48 = true then (some false) else ((laws_toCircuit.f k x194000 x194001).bind fun bt217 => ((laws_eqCircuit.f k x210000 x210001 bt217.1 bt217.2).bind fun t221 => (if t221 = true then ((laws_markCircuit.f k x210000 x210001 1).bind fun bt222 => (if bt222.1 < 0 then (laws_FnExactAddAnd.j1 k x1 x2 x9 true x194000 x194001 x205000 x205001 x216000 x216001) else ((laws_eqCircuit.f k x216000 x216001 x205000 x205001).bind fun t224 => (if t224 = true then (laws_FnExactAddAnd.j1 k x1 x2 x9 (x12 != x9) x194000 x194001 x205000 x205001 x216000 x216001) else (laws_FnExactAddAnd.j1 k x1 x2 x9 true x194000 x194001 x205000 x205001 x216000 x216001))))) else (some false))))
def laws_FnExactAddAnd.j1 : Nat → Int → Int → Int → Bool → Int → List (S63) → Int → List (S57) → Int → List (S57) → Option (Bool)
  | 0, _, _, _, _, _, _, _, _, _, _ => none
  | k + 1, x1, x2, x9, x69, x194000, x194001, x205000, x205001, x216000, x216001 => if x69 = true then (some false) else ((laws_markCircuit.f k x216000 x216001 1).bind fun bt225 => ((laws_heldCircuit.f k x216000 bt225.2 1).bind fun t227 => (if t227 < 0 then (some false) else (if t227 = bt225.1 then ((laws_toCircuit.f k x194000 x194001).bind fun bt228 => ((impl_AddAnd.f k bt228.1 bt228.2 x1 x2).bind fun bt232 => ((laws_eqCircuit.f k bt232.1 bt232.2.1 x205000 x205001).bind fun t238 => (if t238 = true then (laws_FnExactAddAnd.j2 k bt225.1 (bt232.2.2 != x9) x216000 bt225.2) else (laws_FnExactAddAnd.j2 k bt225.1 true x216000 bt225.2))))) else (some false)))))
def laws_FnExactAddAnd.j2 : Nat → Int → Bool → Int → List (S57) → Option (Bool)
  | 0, _, _, _, _ => none
  | k + 1, x14, x97, x216000, x216001 => if x97 = true then (some false) else ((laws_heldCircuit.f k x216000 x216001 1).bind fun t239 => (if t239 < 0 then (some false) else (if t239 = x14 then (some true) else (some false))))
end
def laws_FnExactAddAnd.f (k : Nat) (a0_0 : Int) (l0_1 : List (S63)) (a1 : Int) (a2 : Int) : Option (Bool) := (laws_szCircuit.f a0_0 l0_1 1048576).bind fun t194 => (if t194 < 0 then (some true) else ((laws_toCircuit.f k a0_0 l0_1).bind fun bt195 => ((spec_AddAnd.f k bt195.1 bt195.2 a1 a2).bind fun bt199 => ((laws_toCircuit.f k a0_0 l0_1).bind fun bt205 => ((impl_AddAnd.f k bt205.1 bt205.2 a1 a2).bind fun bt210 => ((laws_eqCircuit.f k bt210.1 bt210.2.1 bt199.1 bt199.2.1).bind fun t216 => (if t216 = true then (laws_FnExactAddAnd.j0 k a1 a2 bt199.2.2 bt210.2.2 (bt210.2.2 != bt199.2.2) a0_0 l0_1 bt199.1 bt199.2.1 bt205.1 bt205.2 bt210.1 bt210.2.1) else (laws_FnExactAddAnd.j0 k a1 a2 bt199.2.2 bt210.2.2 true a0_0 l0_1 bt199.1 bt199.2.1 bt205.1 bt205.2 bt210.1 bt210.2.1))))))))
theorem laws_FnExactAddAnd.mono_l : ∀ k, (∀ y0 y1 y2 y3 y4 y5 y6 y7 y8 y9 y10 y11 y12, LeO (laws_FnExactAddAnd.j0 k y0 y1 y2 y3 y4 y5 y6 y7 y8 y9 y10 y11 y12) (laws_FnExactAddAnd.j0 (k + 1) y0 y1 y2 y3 y4 y5 y6 y7 y8 y9 y10 y11 y12)) ∧ (∀ y0 y1 y2 y3 y4 y5 y6 y7 y8 y9, LeO (laws_FnExactAddAnd.j1 k y0 y1 y2 y3 y4 y5 y6 y7 y8 y9) (laws_FnExactAddAnd.j1 (k + 1) y0 y1 y2 y3 y4 y5 y6 y7 y8 y9)) ∧ (∀ y0 y1 y2 y3, LeO (laws_FnExactAddAnd.j2 k y0 y1 y2 y3) (laws_FnExactAddAnd.j2 (k + 1) y0 y1 y2 y3))
  | 0 => ⟨fun _ _ _ _ _ _ _ _ _ _ _ _ _ r h => by simp [laws_FnExactAddAnd.j0] at h, fun _ _ _ _ _ _ _ _ _ _ r h => by simp [laws_FnExactAddAnd.j1] at h, fun _ _ _ _ r h => by simp [laws_FnExactAddAnd.j2] at h⟩
  | k + 1 => by
    obtain ⟨ih0, ih1, ih2⟩ := laws_FnExactAddAnd.mono_l k
    refine ⟨?_, ?_, ?_⟩
    · intro y0 y1 y2 y3 y4 y5 y6 y7 y8 y9 y10 y11 y12
      unfold laws_FnExactAddAnd.j0
      repeat' first
      | (with_reducible exact ih0 _ _ _ _ _ _ _ _ _ _ _ _ _)
      | (with_reducible exact ih1 _ _ _ _ _ _ _ _ _ _)
      | (with_reducible exact ih2 _ _ _ _)
      | (with_reducible exact impl_AddAnd.mono _ _ _ _ _)
      | (with_reducible exact laws_eqCircuit.mono _ _ _ _ _)
      | (with_reducible exact laws_heldCircuit.mono _ _ _ _)
      | (with_reducible exact laws_markCircuit.mono _ _ _ _)
      | (with_reducible exact laws_toCircuit.mono _ _ _)
      | (with_reducible exact spec_AddAnd.mono _ _ _ _ _)
      | (with_reducible exact LeO.refl _)
      | (with_reducible exact LeO.none _)
      | (with_reducible refine LeO.ite ?_ ?_)
      | (with_reducible refine LeO.bind ?_ (fun _ => ?_))
      | exact ih0 _ _ _ _ _ _ _ _ _ _ _ _ _
      | exact ih1 _ _ _ _ _ _ _ _ _ _
      | exact ih2 _ _ _ _
      | exact impl_AddAnd.mono _ _ _ _ _
      | exact laws_eqCircuit.mono _ _ _ _ _
      | exact laws_heldCircuit.mono _ _ _ _
      | exact laws_markCircuit.mono _ _ _ _
      | exact laws_toCircuit.mono _ _ _
      | exact spec_AddAnd.mono _ _ _ _ _
      | exact LeO.none _
      | refine LeO.ite ?_ ?_
      | refine LeO.bind ?_ (fun _ => ?_)
    · intro y0 y1 y2 y3 y4 y5 y6 y7 y8 y9
      unfold laws_FnExactAddAnd.j1
      repeat' first
      | (with_reducible exact ih0 _ _ _ _ _ _ _ _ _ _ _ _ _)
      | (with_reducible exact ih1 _ _ _ _ _ _ _ _ _ _)
      | (with_reducible exact ih2 _ _ _ _)
      | (with_reducible exact impl_AddAnd.mono _ _ _ _ _)
      | (with_reducible exact laws_eqCircuit.mono _ _ _ _ _)
      | (with_reducible exact laws_heldCircuit.mono _ _ _ _)
      | (with_reducible exact laws_markCircuit.mono _ _ _ _)
      | (with_reducible exact laws_toCircuit.mono _ _ _)
      | (with_reducible exact spec_AddAnd.mono _ _ _ _ _)
      | (with_reducible exact LeO.refl _)
      | (with_reducible exact LeO.none _)
      | (with_reducible refine LeO.ite ?_ ?_)
      | (with_reducible refine LeO.bind ?_ (fun _ => ?_))
      | exact ih0 _ _ _ _ _ _ _ _ _ _ _ _ _
      | exact ih1 _ _ _ _ _ _ _ _ _ _
      | exact ih2 _ _ _ _
      | exact impl_AddAnd.mono _ _ _ _ _
      | exact laws_eqCircuit.mono _ _ _ _ _
      | exact laws_heldCircuit.mono _ _ _ _
      | exact laws_markCircuit.mono _ _ _ _
      | exact laws_toCircuit.mono _ _ _
      | exact spec_AddAnd.mono _ _ _ _ _
      | exact LeO.none _
      | refine LeO.ite ?_ ?_
      | refine LeO.bind ?_ (fun _ => ?_)
    · intro y0 y1 y2 y3
      unfold laws_FnExactAddAnd.j2
      repeat' first
      | (with_reducible exact ih0 _ _ _ _ _ _ _ _ _ _ _ _ _)
      | (with_reducible exact ih1 _ _ _ _ _ _ _ _ _ _)
      | (with_reducible exact ih2 _ _ _ _)
      | (with_reducible exact impl_AddAnd.mono _ _ _ _ _)
      | (with_reducible exact laws_eqCircuit.mono _ _ _ _ _)
      | (with_reducible exact laws_heldCircuit.mono _ _ _ _)
      | (with_reducible exact laws_markCircuit.mono _ _ _ _)
      | (with_reducible exact laws_toCircuit.mono _ _ _)
      | (with_reducible exact spec_AddAnd.mono _ _ _ _ _)
      | (with_reducible exact LeO.refl _)
      | (with_reducible exact LeO.none _)
      | (with_reducible refine LeO.ite ?_ ?_)
      | (with_reducible refine LeO.bind ?_ (fun _ => ?_))
      | exact ih0 _ _ _ _ _ _ _ _ _ _ _ _ _
      | exact ih1 _ _ _ _ _ _ _ _ _ _
      | exact ih2 _ _ _ _
      | exact impl_AddAnd.mono _ _ _ _ _
      | exact laws_eqCircuit.mono _ _ _ _ _
      | exact laws_heldCircuit.mono _ _ _ _
      | exact laws_markCircuit.mono _ _ _ _
      | exact laws_toCircuit.mono _ _ _
      | exact spec_AddAnd.mono _ _ _ _ _
      | exact LeO.none _
      | refine LeO.ite ?_ ?_
      | refine LeO.bind ?_ (fun _ => ?_)
theorem laws_FnExactAddAnd.mono : ∀ a0 a1 a2 a3 k, LeO (laws_FnExactAddAnd.f k a0 a1 a2 a3) (laws_FnExactAddAnd.f (k + 1) a0 a1 a2 a3) := by
  intro a0 a1 a2 a3 k
  obtain ⟨ih0, ih1, ih2⟩ := laws_FnExactAddAnd.mono_l k
  unfold laws_FnExactAddAnd.f
  repeat' first
      | (with_reducible exact ih0 _ _ _ _ _ _ _ _ _ _ _ _ _)
      | (with_reducible exact ih1 _ _ _ _ _ _ _ _ _ _)
      | (with_reducible exact ih2 _ _ _ _)
      | (with_reducible exact impl_AddAnd.mono _ _ _ _ _)
      | (with_reducible exact laws_eqCircuit.mono _ _ _ _ _)
      | (with_reducible exact laws_heldCircuit.mono _ _ _ _)
      | (with_reducible exact laws_markCircuit.mono _ _ _ _)
      | (with_reducible exact laws_toCircuit.mono _ _ _)
      | (with_reducible exact spec_AddAnd.mono _ _ _ _ _)
      | (with_reducible exact LeO.refl _)
      | (with_reducible exact LeO.none _)
      | (with_reducible refine LeO.ite ?_ ?_)
      | (with_reducible refine LeO.bind ?_ (fun _ => ?_))
      | exact ih0 _ _ _ _ _ _ _ _ _ _ _ _ _
      | exact ih1 _ _ _ _ _ _ _ _ _ _
      | exact ih2 _ _ _ _
      | exact impl_AddAnd.mono _ _ _ _ _
      | exact laws_eqCircuit.mono _ _ _ _ _
      | exact laws_heldCircuit.mono _ _ _ _
      | exact laws_markCircuit.mono _ _ _ _
      | exact laws_toCircuit.mono _ _ _
      | exact spec_AddAnd.mono _ _ _ _ _
      | exact LeO.none _
      | refine LeO.ite ?_ ?_
      | refine LeO.bind ?_ (fun _ => ?_)
set_option maxHeartbeats 8000000 in
set_option maxRecDepth 100000 in
theorem laws_FnExactAddAnd.calls (k : Nat) (a0_0 : Int) (A0_1 : Option Addr) (c0_1 : Nat) (l0_1 : List (S63)) (a1 : Int) (a2 : Int) (r : Bool) (w : World) (hr0_1 : Kd.C k63 w A0_1 l0_1.length l0_1) (hc0_1 : l0_1.length ≤ c0_1) (h : laws_FnExactAddAnd.f k a0_0 l0_1 a1 a2 = some r) :
    Calls Try.prog 3 #[.agg #[.int .i64 a0_0, .slice A0_1 l0_1.length c0_1], .int .i64 a1, .int .i64 a2] w fun e w' => e = .returned (.bool r) ∧ Below w.heap.size w w' := by
  have hu24 := Try.underlying24
  have hu28 := Try.underlying28
  have HR0_1 := Aside0.mk hr0_1
  have HC0_1 := Aside0.mk hc0_1
  clear hr0_1 hc0_1
  have HB := Aside0.mk (Below.refl w.heap.size w)
  have H : ((laws_szCircuit.f a0_0 l0_1 1048576).bind fun t194 => (if t194 < 0 then (some true) else ((laws_toCircuit.f k a0_0 l0_1).bind fun bt195 => ((spec_AddAnd.f k bt195.1 bt195.2 a1 a2).bind fun bt199 => ((laws_toCircuit.f k a0_0 l0_1).bind fun bt205 => ((impl_AddAnd.f k bt205.1 bt205.2 a1 a2).bind fun bt210 => ((laws_eqCircuit.f k bt210.1 bt210.2.1 bt199.1 bt199.2.1).bind fun t216 => (if t216 = true then (laws_FnExactAddAnd.j0 k a1 a2 bt199.2.2 bt210.2.2 (bt210.2.2 != bt199.2.2) a0_0 l0_1 bt199.1 bt199.2.1 bt205.1 bt205.2 bt210.1 bt210.2.1) else (laws_FnExactAddAnd.j0 k a1 a2 bt199.2.2 bt210.2.2 true a0_0 l0_1 bt199.1 bt199.2.1 bt205.1 bt205.2 bt210.1 bt210.2.1))))))))) = some r := h
  clear h
  replace H := Option.bind_eq_some_iff.mp H
  obtain ⟨t194, A40, H⟩ := H
  replace H : (if t194 < 0 then (some true) else ((laws_toCircuit.f k a0_0 l0_1).bind fun bt195 => ((spec_AddAnd.f k bt195.1 bt195.2 a1 a2).bind fun bt199 => ((laws_toCircuit.f k a0_0 l0_1).bind fun bt205 => ((impl_AddAnd.f k bt205.1 bt205.2 a1 a2).bind fun bt210 => ((laws_eqCircuit.f k bt210.1 bt210.2.1 bt199.1 bt199.2.1).bind fun t216 => (if t216 = true then (laws_FnExactAddAnd.j0 k a1 a2 bt199.2.2 bt210.2.2 (bt210.2.2 != bt199.2.2) a0_0 l0_1 bt199.1 bt199.2.1 bt205.1 bt205.2 bt210.1 bt210.2.1) else (laws_FnExactAddAnd.j0 k a1 a2 bt199.2.2 bt210.2.2 true a0_0 l0_1 bt199.1 bt199.2.1 bt205.1 bt205.2 bt210.1 bt210.2.1)))))))) = some r := H
  have A4 := Aside0.mk A40
  clear A40
  by_cases c5 : t194 < 0
  · rw [if_pos c5] at H
    have c5b0 : decide (t194 < 0) = true := decide_eq_true c5
    clear c5
    obtain rfl := Option.some.inj H
    go_enter Try.func3, Try.ntmps3
    go_wp2_with (first | ((with_reducible refine gate_dst (N := 3) rfl ?_); refine box_event ?hg (N := 3) ?hd (cs := #[.int .i64 a0_0, .slice A0_1 l0_1.length c0_1]) (t := 24) ?hr ?_; (case hd => rfl); (case hg => rfl); (case hr => first | (go_simp; done) | (go_simp; rfl)); intro gb193 hg w6 hbox hb; have n0_ := Aside0.mk (below_step (by repeat (first | (with_reducible first | exact HB.out | apply below_alloc | apply pw_below_drewN | apply below_drew1) | exact HB.out)) hb); have n1_ := Aside0.mk (hbox); have n2_ := Aside0.mk ((by rw [hg]; exact (below_size (by repeat (first | (with_reducible first | exact HB.out | apply below_alloc | apply pw_below_drewN | apply below_drew1) | exact HB.out))) : w.heap.size ≤ gb193)); have n3_ := Aside0.mk ((by rw [hg]; exact (below_size (by repeat (first | (with_reducible first | exact HB.out | apply below_alloc | apply pw_below_drewN | apply below_drew1) | exact HB.out))) : w.heap.size ≤ gb193)); clear HB; have HB := n0_; have BK193 := n1_; have GW193 := n2_; have GE193 := n3_; clear n0_ n1_ n2_ n3_; clear hb hbox hg; have hcz7_0 : w6.cell? ⟨gb193, 0, none⟩ = some (.int .i64 a0_0) := (blk_cell BK193.out 0).trans rfl; have hcz7_1 : w6.cell? ⟨gb193, 1, none⟩ = some (.slice A0_1 l0_1.length c0_1) := (blk_cell BK193.out 1).trans rfl; have hfz7_0 := blk_frozen BK193.out 0; have hfz7_1 := blk_frozen BK193.out 1) | ((with_reducible refine gate_callee (f := 6) rfl ?_); refine goesL_ (some 20) rfl rfl Try.func6 (by kernel_rfl) rfl #[.agg #[.int .i64 a0_0, .slice A0_1 l0_1.length c0_1], .int .i64 1048576] rfl (by (try simp only [List.map_toArray, List.map_cons, List.map_nil]); first | done | rfl | (simp only [List.length_drop, List.length_take]; rfl)) ?_; (with_reducible refine (laws_szCircuit.calls a0_0 _ _ l0_1 1048576 t194 _ ?side1 ?side2 A4.out).mono ?_); (case side1 => repeat (first | exact (Kd.C_below HR0_1.out HB.out) | (with_reducible refine Kd.C_alloc ?_ _) | (with_reducible refine Kd.C_drewN ?_ _) | (with_reducible refine Kd.C_drew ?_))); (case side2 => exact HC0_1.out); rintro e w8 ⟨rfl, hb⟩; refine ⟨_, rfl, ?_⟩; have n0_ := Aside0.mk (blk_below (g := gb193) (o := .cells #[.int .i64 a0_0, .slice A0_1 l0_1.length c0_1] 24 (0, 0)) (by (with_reducible repeat (first | refine blk_drewN ?_ _ | refine blk_drew ?_ | refine blk_alloc ?_ _)); exact BK193.out) hb); have n1_ := Aside0.mk (below_step (by repeat (first | (with_reducible first | exact HB.out | apply below_alloc | apply pw_below_drewN | apply below_drew1 | refine below_set ?_ GE193.out) | exact HB.out)) hb); clear BK193; clear HB; have BK193 := n0_; have HB := n1_; clear n0_ n1_; (try clear hb); (try clear hb2); (try clear hk); (try clear hi)))
    go_ret
    exact ⟨by first | rfl | (simp [errW_none, errW_some] <;> rfl) | (simp [*, errW_none, errW_some] <;> rfl), by repeat (first | (with_reducible first | exact HB.out | apply below_alloc | apply pw_below_drewN | apply below_drew1 | refine below_set ?_ GE193.out) | exact HB.out)⟩
  · rw [if_neg c5] at H
    have c5b0 : decide (t194 < 0) = false := decide_eq_false c5
    clear c5
    replace H := Option.bind_eq_some_iff.mp H
    obtain ⟨⟨t195, t196⟩, A90, H⟩ := H
    replace H : ((spec_AddAnd.f k t195 t196 a1 a2).bind fun bt199 => ((laws_toCircuit.f k a0_0 l0_1).bind fun bt205 => ((impl_AddAnd.f k bt205.1 bt205.2 a1 a2).bind fun bt210 => ((laws_eqCircuit.f k bt210.1 bt210.2.1 bt199.1 bt199.2.1).bind fun t216 => (if t216 = true then (laws_FnExactAddAnd.j0 k a1 a2 bt199.2.2 bt210.2.2 (bt210.2.2 != bt199.2.2) a0_0 l0_1 bt199.1 bt199.2.1 bt205.1 bt205.2 bt210.1 bt210.2.1) else (laws_FnExactAddAnd.j0 k a1 a2 bt199.2.2 bt210.2.2 true a0_0 l0_1 bt199.1 bt199.2.1 bt205.1 bt205.2 bt210.1 bt210.2.1)))))) = some r := H
    have A9 := Aside0.mk A90
    clear A90
    replace H := Option.bind_eq_some_iff.mp H
    obtain ⟨⟨t199, t200, t203⟩, A100, H⟩ := H
    replace H : ((laws_toCircuit.f k a0_0 l0_1).bind fun bt205 => ((impl_AddAnd.f k bt205.1 bt205.2 a1 a2).bind fun bt210 => ((laws_eqCircuit.f k bt210.1 bt210.2.1 t199 t200).bind fun t216 => (if t216 = true then (laws_FnExactAddAnd.j0 k a1 a2 t203 bt210.2.2 (bt210.2.2 != t203) a0_0 l0_1 t199 t200 bt205.1 bt205.2 bt210.1 bt210.2.1) else (laws_FnExactAddAnd.j0 k a1 a2 t203 bt210.2.2 true a0_0 l0_1 t199 t200 bt205.1 bt205.2 bt210.1 bt210.2.1))))) = some r := H
    have A10 := Aside0.mk A100
    clear A100
    replace H := Option.bind_eq_some_iff.mp H
    obtain ⟨⟨t205, t206⟩, A110, H⟩ := H
    replace H : ((impl_AddAnd.f k t205 t206 a1 a2).bind fun bt210 => ((laws_eqCircuit.f k bt210.1 bt210.2.1 t199 t200).bind fun t216 => (if t216 = true then (laws_FnExactAddAnd.j0 k a1 a2 t203 bt210.2.2 (bt210.2.2 != t203) a0_0 l0_1 t199 t200 t205 t206 bt210.1 bt210.2.1) else (laws_FnExactAddAnd.j0 k a1 a2 t203 bt210.2.2 true a0_0 l0_1 t199 t200 t205 t206 bt210.1 bt210.2.1)))) = some r := H
    have A11 := Aside0.mk A110
    clear A110
    replace H := Option.bind_eq_some_iff.mp H
    obtain ⟨⟨t210, t211, t214⟩, A120, H⟩ := H
    replace H : ((laws_eqCircuit.f k t210 t211 t199 t200).bind fun t216 => (if t216 = true then (laws_FnExactAddAnd.j0 k a1 a2 t203 t214 (t214 != t203) a0_0 l0_1 t199 t200 t205 t206 t210 t211) else (laws_FnExactAddAnd.j0 k a1 a2 t203 t214 true a0_0 l0_1 t199 t200 t205 t206 t210 t211))) = some r := H
    have A12 := Aside0.mk A120
    clear A120
    have HC13 := Aside0.mk H
    clear H
    go_enter Try.func3, Try.ntmps3
    go_upto_region 8 with (first | ((with_reducible refine gate_dst (N := 3) rfl ?_); refine box_event ?hg (N := 3) ?hd (cs := #[.int .i64 a0_0, .slice A0_1 l0_1.length c0_1]) (t := 24) ?hr ?_; (case hd => rfl); (case hg => rfl); (case hr => first | (go_simp; done) | (go_simp; rfl)); intro gb193 hg w14 hbox hb; have n0_ := Aside0.mk (below_step (by repeat (first | (with_reducible first | exact HB.out | apply below_alloc | apply pw_below_drewN | apply below_drew1) | exact HB.out)) hb); have n1_ := Aside0.mk (hbox); have n2_ := Aside0.mk ((by rw [hg]; exact (below_size (by repeat (first | (with_reducible first | exact HB.out | apply below_alloc | apply pw_below_drewN | apply below_drew1) | exact HB.out))) : w.heap.size ≤ gb193)); have n3_ := Aside0.mk ((by rw [hg]; exact (below_size (by repeat (first | (with_reducible first | exact HB.out | apply below_alloc | apply pw_below_drewN | apply below_drew1) | exact HB.out))) : w.heap.size ≤ gb193)); clear HB; have HB := n0_; have BK193 := n1_; have GW193 := n2_; have GE193 := n3_; clear n0_ n1_ n2_ n3_; clear hb hbox hg; have hcz15_0 : w14.cell? ⟨gb193, 0, none⟩ = some (.int .i64 a0_0) := (blk_cell BK193.out 0).trans rfl; have hcz15_1 : w14.cell? ⟨gb193, 1, none⟩ = some (.slice A0_1 l0_1.length c0_1) := (blk_cell BK193.out 1).trans rfl; have hfz15_0 := blk_frozen BK193.out 0; have hfz15_1 := blk_frozen BK193.out 1) | ((with_reducible refine gate_callee (f := 6) rfl ?_); refine goesL_ (some 20) rfl rfl Try.func6 (by kernel_rfl) rfl #[.agg #[.int .i64 a0_0, .slice A0_1 l0_1.length c0_1], .int .i64 1048576] rfl (by (try simp only [List.map_toArray, List.map_cons, List.map_nil]); first | done | rfl | (simp only [List.length_drop, List.length_take]; rfl)) ?_; (with_reducible refine (laws_szCircuit.calls a0_0 _ _ l0_1 1048576 t194 _ ?side1 ?side2 A4.out).mono ?_); (case side1 => repeat (first | exact (Kd.C_below HR0_1.out HB.out) | (with_reducible refine Kd.C_alloc ?_ _) | (with_reducible refine Kd.C_drewN ?_ _) | (with_reducible refine Kd.C_drew ?_))); (case side2 => exact HC0_1.out); rintro e w16 ⟨rfl, hb⟩; refine ⟨_, rfl, ?_⟩; have n0_ := Aside0.mk (blk_below (g := gb193) (o := .cells #[.int .i64 a0_0, .slice A0_1 l0_1.length c0_1] 24 (0, 0)) (by (with_reducible repeat (first | refine blk_drewN ?_ _ | refine blk_drew ?_ | refine blk_alloc ?_ _)); exact BK193.out) hb); have n1_ := Aside0.mk (below_step (by repeat (first | (with_reducible first | exact HB.out | apply below_alloc | apply pw_below_drewN | apply below_drew1 | refine below_set ?_ GE193.out) | exact HB.out)) hb); clear BK193; clear HB; have BK193 := n0_; have HB := n1_; clear n0_ n1_; (try clear hb); (try clear hb2); (try clear hk); (try clear hi); have hcz17_0 : w16.cell? ⟨gb193, 0, none⟩ = some (.int .i64 a0_0) := (blk_cell BK193.out 0).trans rfl; have hcz17_1 : w16.cell? ⟨gb193, 1, none⟩ = some (.slice A0_1 l0_1.length c0_1) := (blk_cell BK193.out 1).trans rfl; have hfz17_0 := blk_frozen BK193.out 0; have hfz17_1 := blk_frozen BK193.out 1) | ((with_reducible refine gate_callee (f := 8) rfl ?_); refine goesL_ (some 25) rfl rfl Try.func8 (by kernel_rfl) rfl #[.agg #[.int .i64 a0_0, .slice A0_1 l0_1.length c0_1]] rfl (by (try simp only [List.map_toArray, List.map_cons, List.map_nil]); first | done | rfl | (simp only [List.length_drop, List.length_take]; rfl)) ?_; (with_reducible refine (laws_toCircuit.calls k a0_0 _ _ l0_1 t195 t196 _ ?side1 ?side2 A9.out).mono ?_); (case side1 => repeat (first | exact (Kd.C_below HR0_1.out HB.out) | (with_reducible refine Kd.C_alloc ?_ _) | (with_reducible refine Kd.C_drewN ?_ _) | (with_reducible refine Kd.C_drew ?_))); (case side2 => exact HC0_1.out); rintro e w18 ⟨v197, rfl, ho0, hb⟩; refine ⟨_, rfl, ?_⟩; have n0_ := Aside0.mk (Kd.R_lower ho0 (below_size (by repeat (first | (with_reducible first | exact HB.out | apply below_alloc | apply pw_below_drewN | apply below_drew1 | refine below_set ?_ GE193.out) | exact HB.out)))); have n1_ := Aside0.mk (blk_below (g := gb193) (o := .cells #[.int .i64 a0_0, .slice A0_1 l0_1.length c0_1] 24 (0, 0)) (by (with_reducible repeat (first | refine blk_drewN ?_ _ | refine blk_drew ?_ | refine blk_alloc ?_ _)); exact BK193.out) hb); have n2_ := Aside0.mk (below_step (by repeat (first | (with_reducible first | exact HB.out | apply below_alloc | apply pw_below_drewN | apply below_drew1 | refine below_set ?_ GE193.out) | exact HB.out)) hb); clear BK193; clear HB; have HO198 := n0_; have BK193 := n1_; have HB := n2_; clear n0_ n1_ n2_; (try clear hb); (try clear hb2); (try clear hk); (try clear hi); (try clear ho0); obtain ⟨Ao19, co19, eo19⟩ := Kd.R_slice HO198.out; subst eo19) | ((with_reducible refine gate_callee (f := 7) rfl ?_); refine goesL_ (some 28) rfl rfl Try.func7 (by kernel_rfl) rfl #[.agg #[.int .i64 t195, .slice Ao19 t196.length co19], .int .i64 a1, .int .i64 a2] rfl (by (try simp only [List.map_toArray, List.map_cons, List.map_nil]); first | done | rfl | (simp only [List.length_drop, List.length_take]; rfl)) ?_; (with_reducible refine (spec_AddAnd.calls k t195 _ _ t196 a1 a2 t199 t200 t203 _ ?side1 ?side2 A10.out).mono ?_); (case side1 => repeat (first | exact (Kd.R_reads' HO198.out).2.2 | (with_reducible refine Kd.C_alloc ?_ _) | (with_reducible refine Kd.C_drewN ?_ _) | (with_reducible refine Kd.C_drew ?_))); (case side2 => exact (Kd.R_reads' HO198.out).2.1); rintro e w20 ⟨v201, rfl, ho0, hb⟩; refine ⟨_, rfl, ?_⟩; have n0_ := Aside0.mk (Kd.R_elder' (by (with_reducible repeat (first | apply Kd.R_alloc | apply Kd.R_drewN | apply Kd.R_drew)); exact HO198.out) (Kd.R_base ho0) hb); have n1_ := Aside0.mk (Kd.R_lower (Kd.R_new' ho0 (Kd.R_lt (by (with_reducible repeat (first | apply Kd.R_alloc | apply Kd.R_drewN | apply Kd.R_drew)); exact HO198.out))) (below_size (by repeat (first | (with_reducible first | exact HB.out | apply below_alloc | apply pw_below_drewN | apply below_drew1 | refine below_set ?_ GE193.out) | exact HB.out)))); have n2_ := Aside0.mk (blk_below (g := gb193) (o := .cells #[.int .i64 a0_0, .slice A0_1 l0_1.length c0_1] 24 (0, 0)) (by (with_reducible repeat (first | refine blk_drewN ?_ _ | refine blk_drew ?_ | refine blk_alloc ?_ _)); exact BK193.out) hb); have n3_ := Aside0.mk (below_step (by repeat (first | (with_reducible first | exact HB.out | apply below_alloc | apply pw_below_drewN | apply below_drew1 | refine below_set ?_ GE193.out) | exact HB.out)) hb); clear HO198; clear BK193; clear HB; have HO198 := n0_; have HO202 := n1_; have BK193 := n2_; have HB := n3_; clear n0_ n1_ n2_ n3_; (try clear hb); (try clear hb2); (try clear hk); (try clear hi); (try clear ho0)) | ((with_reducible refine gate_dst (N := 8) rfl ?_); refine box_event ?hg (N := 8) ?hd (cs := #[.int .i64 0, .slice none 0 0]) (t := 28) ?hr ?_; (case hd => rfl); (case hg => rfl); (case hr => first | (go_simp; done) | (go_simp; rfl)); intro gb204 hg w21 hbox hb; have n0_ := Aside0.mk (Kd.R_below (by (with_reducible repeat (first | apply Kd.R_alloc | apply Kd.R_drewN | apply Kd.R_drew)); exact HO198.out) hb); have n1_ := Aside0.mk (Kd.R_below (by (with_reducible repeat (first | apply Kd.R_alloc | apply Kd.R_drewN | apply Kd.R_drew)); exact HO202.out) hb); have n2_ := Aside0.mk (blk_below (g := gb193) (o := .cells #[.int .i64 a0_0, .slice A0_1 l0_1.length c0_1] 24 (0, 0)) (by (with_reducible repeat (first | refine blk_drewN ?_ _ | refine blk_drew ?_ | refine blk_alloc ?_ _)); exact BK193.out) hb); have n3_ := Aside0.mk (below_step (by repeat (first | (with_reducible first | exact HB.out | apply below_alloc | apply pw_below_drewN | apply below_drew1 | refine below_set ?_ GE193.out) | exact HB.out)) hb); have n4_ := Aside0.mk (hbox); have n5_ := Aside0.mk ((by rw [hg]; exact (below_size (by repeat (first | (with_reducible first | exact HB.out | apply below_alloc | apply pw_below_drewN | apply below_drew1 | refine below_set ?_ GE193.out) | exact HB.out))) : w.heap.size ≤ gb204)); have n6_ := Aside0.mk ((by rw [hg]; exact (below_size (by repeat (first | (with_reducible first | exact HB.out | apply below_alloc | apply pw_below_drewN | apply below_drew1 | refine below_set ?_ GE193.out) | exact HB.out))) : w.heap.size ≤ gb204)); have n7_ := Aside0.mk ((by rw [hg]; exact Nat.ne_of_lt (blk_lt (g := gb193) (o := .cells #[.int .i64 a0_0, .slice A0_1 l0_1.length c0_1] 24 (0, 0)) (by (with_reducible repeat (first | refine blk_drewN ?_ _ | refine blk_drew ?_ | refine blk_alloc ?_ _)); exact BK193.out)) : gb193 ≠ gb204)); have n8_ := Aside0.mk ((by rw [hg]; exact Nat.ne_of_gt (blk_lt (g := gb193) (o := .cells #[.int .i64 a0_0, .slice A0_1 l0_1.length c0_1] 24 (0, 0)) (by (with_reducible repeat (first | refine blk_drewN ?_ _ | refine blk_drew ?_ | refine blk_alloc ?_ _)); exact BK193.out)) : gb204 ≠ gb193)); clear HO198; clear HO202; clear BK193; clear HB; have HO198 := n0_; have HO202 := n1_; have BK193 := n2_; have HB := n3_; have BK204 := n4_; have GW204 := n5_; have GE204 := n6_; have NB193_204 := n7_; have NB204_193 := n8_; clear n0_ n1_ n2_ n3_ n4_ n5_ n6_ n7_ n8_; clear hb hbox hg; have hnb22 := NB204_193.out; have hnc22 := NB193_204.out; have hcz23_0 : w21.cell? ⟨gb204, 0, none⟩ = some (.int .i64 0) := (blk_cell BK204.out 0).trans rfl; have hcz23_1 : w21.cell? ⟨gb204, 1, none⟩ = some (.slice none 0 0) := (blk_cell BK204.out 1).trans rfl; have hfz23_0 := blk_frozen BK204.out 0; have hfz23_1 := blk_frozen BK204.out 1; obtain ⟨Ao24, co24, eo24⟩ := Kd.R_slice HO202.out; subst eo24; have hcz25_0 : w21.cell? ⟨gb193, 0, none⟩ = some (.int .i64 a0_0) := (blk_cell BK193.out 0).trans rfl; have hcz25_1 : w21.cell? ⟨gb193, 1, none⟩ = some (.slice A0_1 l0_1.length c0_1) := (blk_cell BK193.out 1).trans rfl; have hfz25_0 := blk_frozen BK193.out 0; have hfz25_1 := blk_frozen BK193.out 1) | ((with_reducible refine gate_callee (f := 8) rfl ?_); refine goesL_ (some 32) rfl rfl Try.func8 (by kernel_rfl) rfl #[.agg #[.int .i64 a0_0, .slice A0_1 l0_1.length c0_1]] rfl (by (try simp only [List.map_toArray, List.map_cons, List.map_nil]); first | done | rfl | (simp only [List.length_drop, List.length_take]; rfl)) ?_; (with_reducible refine (laws_toCircuit.calls k a0_0 _ _ l0_1 t205 t206 _ ?side1 ?side2 A11.out).mono ?_); (case side1 => exact Kd.C_below HR0_1.out (by repeat (first | (with_reducible first | exact HB.out | apply below_alloc | apply pw_below_drewN | apply below_drew1 | refine below_set ?_ GE193.out | refine below_set ?_ GE204.out) | exact HB.out))); (case side2 => exact HC0_1.out); rintro e w26 ⟨v207, rfl, ho0, hb⟩; refine ⟨_, rfl, ?_⟩; have n0_ := Aside0.mk (Kd.R_elder' (by (with_reducible repeat (first | apply Kd.R_alloc | apply Kd.R_drewN | apply Kd.R_drew)); exact (Kd.R_mono (Kd.R_far (p := ⟨gb204, 1, none⟩) (Kd.R_far (p := ⟨gb204, 0, none⟩) (Kd.R_types HO198.out BK204.out (by decide)) (fun _ hk => hk.2) (.int .i64 t199)) (fun _ hk => hk.2) (.slice Ao24 t200.length co24)) (fun _ h_ => h_.1))) (Kd.R_base ho0) hb); have n1_ := Aside0.mk (Kd.R_elder' (by (with_reducible repeat (first | apply Kd.R_alloc | apply Kd.R_drewN | apply Kd.R_drew)); exact (Kd.R_mono (Kd.R_far (p := ⟨gb204, 1, none⟩) (Kd.R_far (p := ⟨gb204, 0, none⟩) (Kd.R_types HO202.out BK204.out (by decide)) (fun _ hk => hk.2) (.int .i64 t199)) (fun _ hk => hk.2) (.slice Ao24 t200.length co24)) (fun _ h_ => h_.1))) (Kd.R_base ho0) hb); have n2_ := Aside0.mk (Kd.R_lower (Kd.R_new' (Kd.R_new' ho0 (Kd.R_lt (by (with_reducible repeat (first | apply Kd.R_alloc | apply Kd.R_drewN | apply Kd.R_drew)); exact (Kd.R_mono (Kd.R_far (p := ⟨gb204, 1, none⟩) (Kd.R_far (p := ⟨gb204, 0, none⟩) (Kd.R_types HO198.out BK204.out (by decide)) (fun _ hk => hk.2) (.int .i64 t199)) (fun _ hk => hk.2) (.slice Ao24 t200.length co24)) (fun _ h_ => h_.1))))) (Kd.R_lt (by (with_reducible repeat (first | apply Kd.R_alloc | apply Kd.R_drewN | apply Kd.R_drew)); exact (Kd.R_mono (Kd.R_far (p := ⟨gb204, 1, none⟩) (Kd.R_far (p := ⟨gb204, 0, none⟩) (Kd.R_types HO202.out BK204.out (by decide)) (fun _ hk => hk.2) (.int .i64 t199)) (fun _ hk => hk.2) (.slice Ao24 t200.length co24)) (fun _ h_ => h_.1))))) (below_size (by repeat (first | (with_reducible first | exact HB.out | apply below_alloc | apply pw_below_drewN | apply below_drew1 | refine below_set ?_ GE193.out | refine below_set ?_ GE204.out) | exact HB.out)))); have n3_ := Aside0.mk (blk_below (g := gb193) (o := .cells #[.int .i64 a0_0, .slice A0_1 l0_1.length c0_1] 24 (0, 0)) (by (with_reducible repeat (first | refine blk_drewN ?_ _ | refine blk_drew ?_ | refine blk_alloc ?_ _)); refine blk_far ?_ NB193_204.out _; (with_reducible repeat (first | refine blk_drewN ?_ _ | refine blk_drew ?_ | refine blk_alloc ?_ _)); refine blk_far ?_ NB193_204.out _; (with_reducible repeat (first | refine blk_drewN ?_ _ | refine blk_drew ?_ | refine blk_alloc ?_ _)); exact BK193.out) hb); have n4_ := Aside0.mk (blk_below (g := gb204) (o := .cells #[.int .i64 t199, .slice Ao24 t200.length co24] 28 (0, 0)) (by (with_reducible repeat (first | refine blk_drewN ?_ _ | refine blk_drew ?_ | refine blk_alloc ?_ _)); refine blk_put (cs := #[.int .i64 t199, .slice none 0 0]) ?_ 1 _ rfl; (with_reducible repeat (first | refine blk_drewN ?_ _ | refine blk_drew ?_ | refine blk_alloc ?_ _)); refine blk_put (cs := #[.int .i64 0, .slice none 0 0]) ?_ 0 _ rfl; (with_reducible repeat (first | refine blk_drewN ?_ _ | refine blk_drew ?_ | refine blk_alloc ?_ _)); exact BK204.out) hb); have n5_ := Aside0.mk (below_step (by repeat (first | (with_reducible first | exact HB.out | apply below_alloc | apply pw_below_drewN | apply below_drew1 | refine below_set ?_ GE193.out | refine below_set ?_ GE204.out) | exact HB.out)) hb); clear HO198; clear HO202; clear BK193; clear BK204; clear HB; have HO198 := n0_; have HO202 := n1_; have HO208 := n2_; have BK193 := n3_; have BK204 := n4_; have HB := n5_; clear n0_ n1_ n2_ n3_ n4_ n5_; (try clear hb); (try clear hb2); (try clear hk); (try clear hi); (try clear ho0)) | ((with_reducible refine gate_dst (N := 10) rfl ?_); refine box_event ?hg (N := 10) ?hd (cs := #[.int .i64 0, .slice none 0 0]) (t := 28) ?hr ?_; (case hd => rfl); (case hg => rfl); (case hr => first | (go_simp; done) | (go_simp; rfl)); intro gb209 hg w27 hbox hb; have n0_ := Aside0.mk (Kd.R_below (by (with_reducible repeat (first | apply Kd.R_alloc | apply Kd.R_drewN | apply Kd.R_drew)); exact HO198.out) hb); have n1_ := Aside0.mk (Kd.R_below (by (with_reducible repeat (first | apply Kd.R_alloc | apply Kd.R_drewN | apply Kd.R_drew)); exact HO202.out) hb); have n2_ := Aside0.mk (Kd.R_below (by (with_reducible repeat (first | apply Kd.R_alloc | apply Kd.R_drewN | apply Kd.R_drew)); exact HO208.out) hb); have n3_ := Aside0.mk (blk_below (g := gb193) (o := .cells #[.int .i64 a0_0, .slice A0_1 l0_1.length c0_1] 24 (0, 0)) (by (with_reducible repeat (first | refine blk_drewN ?_ _ | refine blk_drew ?_ | refine blk_alloc ?_ _)); exact BK193.out) hb); have n4_ := Aside0.mk (blk_below (g := gb204) (o := .cells #[.int .i64 t199, .slice Ao24 t200.length co24] 28 (0, 0)) (by (with_reducible repeat (first | refine blk_drewN ?_ _ | refine blk_drew ?_ | refine blk_alloc ?_ _)); exact BK204.out) hb); have n5_ := Aside0.mk (below_step (by repeat (first | (with_reducible first | exact HB.out | apply below_alloc | apply pw_below_drewN | apply below_drew1 | refine below_set ?_ GE193.out | refine below_set ?_ GE204.out) | exact HB.out)) hb); have n6_ := Aside0.mk (hbox); have n7_ := Aside0.mk ((by rw [hg]; exact (below_size (by repeat (first | (with_reducible first | exact HB.out | apply below_alloc | apply pw_below_drewN | apply below_drew1 | refine below_set ?_ GE193.out | refine below_set ?_ GE204.out) | exact HB.out))) : w.heap.size ≤ gb209)); have n8_ := Aside0.mk ((by rw [hg]; exact (below_size (by repeat (first | (with_reducible first | exact HB.out | apply below_alloc | apply pw_below_drewN | apply below_drew1 | refine below_set ?_ GE193.out | refine below_set ?_ GE204.out) | exact HB.out))) : w.heap.size ≤ gb209)); have n9_ := Aside0.mk ((by rw [hg]; exact Nat.ne_of_lt (blk_lt (g := gb193) (o := .cells #[.int .i64 a0_0, .slice A0_1 l0_1.length c0_1] 24 (0, 0)) (by (with_reducible repeat (first | refine blk_drewN ?_ _ | refine blk_drew ?_ | refine blk_alloc ?_ _)); exact BK193.out)) : gb193 ≠ gb209)); have n10_ := Aside0.mk ((by rw [hg]; exact Nat.ne_of_gt (blk_lt (g := gb193) (o := .cells #[.int .i64 a0_0, .slice A0_1 l0_1.length c0_1] 24 (0, 0)) (by (with_reducible repeat (first | refine blk_drewN ?_ _ | refine blk_drew ?_ | refine blk_alloc ?_ _)); exact BK193.out)) : gb209 ≠ gb193)); have n11_ := Aside0.mk ((by rw [hg]; exact Nat.ne_of_lt (blk_lt (g := gb204) (o := .cells #[.int .i64 t199, .slice Ao24 t200.length co24] 28 (0, 0)) (by (with_reducible repeat (first | refine blk_drewN ?_ _ | refine blk_drew ?_ | refine blk_alloc ?_ _)); exact BK204.out)) : gb204 ≠ gb209)); have n12_ := Aside0.mk ((by rw [hg]; exact Nat.ne_of_gt (blk_lt (g := gb204) (o := .cells #[.int .i64 t199, .slice Ao24 t200.length co24] 28 (0, 0)) (by (with_reducible repeat (first | refine blk_drewN ?_ _ | refine blk_drew ?_ | refine blk_alloc ?_ _)); exact BK204.out)) : gb209 ≠ gb204)); clear HO198; clear HO202; clear HO208; clear BK193; clear BK204; clear HB; have HO198 := n0_; have HO202 := n1_; have HO208 := n2_; have BK193 := n3_; have BK204 := n4_; have HB := n5_; have BK209 := n6_; have GW209 := n7_; have GE209 := n8_; have NB193_209 := n9_; have NB209_193 := n10_; have NB204_209 := n11_; have NB209_204 := n12_; clear n0_ n1_ n2_ n3_ n4_ n5_ n6_ n7_ n8_ n9_ n10_ n11_ n12_; clear hb hbox hg; have hnb28 := NB209_193.out; have hnc28 := NB193_209.out; have hnb29 := NB209_204.out; have hnc29 := NB204_209.out; have hcz30_0 : w27.cell? ⟨gb209, 0, none⟩ = some (.int .i64 0) := (blk_cell BK209.out 0).trans rfl; have hcz30_1 : w27.cell? ⟨gb209, 1, none⟩ = some (.slice none 0 0) := (blk_cell BK209.out 1).trans rfl; have hfz30_0 := blk_frozen BK209.out 0; have hfz30_1 := blk_frozen BK209.out 1; obtain ⟨Ao31, co31, eo31⟩ := Kd.R_slice HO208.out; subst eo31) | ((with_reducible refine gate_callee (f := 9) rfl ?_); refine goesL_ (some 37) rfl rfl Try.func9 (by kernel_rfl) rfl #[.agg #[.int .i64 t205, .slice Ao31 t206.length co31], .int .i64 a1, .int .i64 a2] rfl (by (try simp only [List.map_toArray, List.map_cons, List.map_nil]); first | done | rfl | (simp only [List.length_drop, List.length_take]; rfl)) ?_; (with_reducible refine (impl_AddAnd.calls k t205 _ _ t206 a1 a2 t210 t211 t214 _ ?side1 ?side2 A12.out).mono ?_); (case side1 => refine (Kd.R_reads' (e := 57) (base := w.heap.size) (ok := fun k_ => ((True ∧ some k_ ≠ (.slice Ao19 t196.length co19 : Value).ownBlock) ∧ some k_ ≠ (.slice Ao24 t200.length co24 : Value).ownBlock)) (n := t206.length) (c := co31) ?_).2.2; exact (by (with_reducible repeat (first | apply Kd.R_alloc | apply Kd.R_drewN | apply Kd.R_drew)); exact (Kd.R_mono (Kd.R_far (p := ⟨gb209, 1, none⟩) (Kd.R_far (p := ⟨gb209, 0, none⟩) (Kd.R_types HO208.out BK209.out (by decide)) (fun _ hk => hk.2) (.int .i64 t205)) (fun _ hk => hk.2) (.slice Ao31 t206.length co31)) (fun _ h_ => h_.1)))); (case side2 => exact (Kd.R_reads' HO208.out).2.1); rintro e w32 ⟨v212, rfl, ho0, hb⟩; refine ⟨_, rfl, ?_⟩; have n0_ := Aside0.mk (Kd.R_elder' (by (with_reducible repeat (first | apply Kd.R_alloc | apply Kd.R_drewN | apply Kd.R_drew)); exact (Kd.R_mono (Kd.R_far (p := ⟨gb209, 1, none⟩) (Kd.R_far (p := ⟨gb209, 0, none⟩) (Kd.R_types HO198.out BK209.out (by decide)) (fun _ hk => hk.2) (.int .i64 t205)) (fun _ hk => hk.2) (.slice Ao31 t206.length co31)) (fun _ h_ => h_.1))) (Kd.R_base ho0) hb); have n1_ := Aside0.mk (Kd.R_elder' (by (with_reducible repeat (first | apply Kd.R_alloc | apply Kd.R_drewN | apply Kd.R_drew)); exact (Kd.R_mono (Kd.R_far (p := ⟨gb209, 1, none⟩) (Kd.R_far (p := ⟨gb209, 0, none⟩) (Kd.R_types HO202.out BK209.out (by decide)) (fun _ hk => hk.2) (.int .i64 t205)) (fun _ hk => hk.2) (.slice Ao31 t206.length co31)) (fun _ h_ => h_.1))) (Kd.R_base ho0) hb); have n2_ := Aside0.mk (Kd.R_elder' (by (with_reducible repeat (first | apply Kd.R_alloc | apply Kd.R_drewN | apply Kd.R_drew)); exact (Kd.R_mono (Kd.R_far (p := ⟨gb209, 1, none⟩) (Kd.R_far (p := ⟨gb209, 0, none⟩) (Kd.R_types HO208.out BK209.out (by decide)) (fun _ hk => hk.2) (.int .i64 t205)) (fun _ hk => hk.2) (.slice Ao31 t206.length co31)) (fun _ h_ => h_.1))) (Kd.R_base ho0) hb); have n3_ := Aside0.mk (Kd.R_lower (Kd.R_new' (Kd.R_new' (Kd.R_new' ho0 (Kd.R_lt (by (with_reducible repeat (first | apply Kd.R_alloc | apply Kd.R_drewN | apply Kd.R_drew)); exact (Kd.R_mono (Kd.R_far (p := ⟨gb209, 1, none⟩) (Kd.R_far (p := ⟨gb209, 0, none⟩) (Kd.R_types HO198.out BK209.out (by decide)) (fun _ hk => hk.2) (.int .i64 t205)) (fun _ hk => hk.2) (.slice Ao31 t206.length co31)) (fun _ h_ => h_.1))))) (Kd.R_lt (by (with_reducible repeat (first | apply Kd.R_alloc | apply Kd.R_drewN | apply Kd.R_drew)); exact (Kd.R_mono (Kd.R_far (p := ⟨gb209, 1, none⟩) (Kd.R_far (p := ⟨gb209, 0, none⟩) (Kd.R_types HO202.out BK209.out (by decide)) (fun _ hk => hk.2) (.int .i64 t205)) (fun _ hk => hk.2) (.slice Ao31 t206.length co31)) (fun _ h_ => h_.1))))) (Kd.R_lt (by (with_reducible repeat (first | apply Kd.R_alloc | apply Kd.R_drewN | apply Kd.R_drew)); exact (Kd.R_mono (Kd.R_far (p := ⟨gb209, 1, none⟩) (Kd.R_far (p := ⟨gb209, 0, none⟩) (Kd.R_types HO208.out BK209.out (by decide)) (fun _ hk => hk.2) (.int .i64 t205)) (fun _ hk => hk.2) (.slice Ao31 t206.length co31)) (fun _ h_ => h_.1))))) (below_size (by repeat (first | (with_reducible first | exact HB.out | apply below_alloc | apply pw_below_drewN | apply below_drew1 | refine below_set ?_ GE193.out | refine below_set ?_ GE204.out | refine below_set ?_ GE209.out) | exact HB.out)))); have n4_ := Aside0.mk (blk_below (g := gb193) (o := .cells #[.int .i64 a0_0, .slice A0_1 l0_1.length c0_1] 24 (0, 0)) (by (with_reducible repeat (first | refine blk_drewN ?_ _ | refine blk_drew ?_ | refine blk_alloc ?_ _)); refine blk_far ?_ NB193_209.out _; (with_reducible repeat (first | refine blk_drewN ?_ _ | refine blk_drew ?_ | refine blk_alloc ?_ _)); refine blk_far ?_ NB193_209.out _; (with_reducible repeat (first | refine blk_drewN ?_ _ | refine blk_drew ?_ | refine blk_alloc ?_ _)); exact BK193.out) hb); have n5_ := Aside0.mk (blk_below (g := gb204) (o := .cells #[.int .i64 t199, .slice Ao24 t200.length co24] 28 (0, 0)) (by (with_reducible repeat (first | refine blk_drewN ?_ _ | refine blk_drew ?_ | refine blk_alloc ?_ _)); refine blk_far ?_ NB204_209.out _; (with_reducible repeat (first | refine blk_drewN ?_ _ | refine blk_drew ?_ | refine blk_alloc ?_ _)); refine blk_far ?_ NB204_209.out _; (with_reducible repeat (first | refine blk_drewN ?_ _ | refine blk_drew ?_ | refine blk_alloc ?_ _)); exact BK204.out) hb); have n6_ := Aside0.mk (blk_below (g := gb209) (o := .cells #[.int .i64 t205, .slice Ao31 t206.length co31] 28 (0, 0)) (by (with_reducible repeat (first | refine blk_drewN ?_ _ | refine blk_drew ?_ | refine blk_alloc ?_ _)); refine blk_put (cs := #[.int .i64 t205, .slice none 0 0]) ?_ 1 _ rfl; (with_reducible repeat (first | refine blk_drewN ?_ _ | refine blk_drew ?_ | refine blk_alloc ?_ _)); refine blk_put (cs := #[.int .i64 0, .slice none 0 0]) ?_ 0 _ rfl; (with_reducible repeat (first | refine blk_drewN ?_ _ | refine blk_drew ?_ | refine blk_alloc ?_ _)); exact BK209.out) hb); have n7_ := Aside0.mk (below_step (by repeat (first | (with_reducible first | exact HB.out | apply below_alloc | apply pw_below_drewN | apply below_drew1 | refine below_set ?_ GE193.out | refine below_set ?_ GE204.out | refine below_set ?_ GE209.out) | exact HB.out)) hb); clear HO198; clear HO202; clear HO208; clear BK193; clear BK204; clear BK209; clear HB; have HO198 := n0_; have HO202 := n1_; have HO208 := n2_; have HO213 := n3_; have BK193 := n4_; have BK204 := n5_; have BK209 := n6_; have HB := n7_; clear n0_ n1_ n2_ n3_ n4_ n5_ n6_ n7_; (try clear hb); (try clear hb2); (try clear hk); (try clear hi); (try clear ho0)) | ((with_reducible refine gate_dst (N := 11) rfl ?_); refine box_event ?hg (N := 11) ?hd (cs := #[.int .i64 0, .slice none 0 0]) (t := 28) ?hr ?_; (case hd => rfl); (case hg => rfl); (case hr => first | (go_simp; done) | (go_simp; rfl)); intro gb215 hg w33 hbox hb; have n0_ := Aside0.mk (Kd.R_below (by (with_reducible repeat (first | apply Kd.R_alloc | apply Kd.R_drewN | apply Kd.R_drew)); exact HO198.out) hb); have n1_ := Aside0.mk (Kd.R_below (by (with_reducible repeat (first | apply Kd.R_alloc | apply Kd.R_drewN | apply Kd.R_drew)); exact HO202.out) hb); have n2_ := Aside0.mk (Kd.R_below (by (with_reducible repeat (first | apply Kd.R_alloc | apply Kd.R_drewN | apply Kd.R_drew)); exact HO208.out) hb); have n3_ := Aside0.mk (Kd.R_below (by (with_reducible repeat (first | apply Kd.R_alloc | apply Kd.R_drewN | apply Kd.R_drew)); exact HO213.out) hb); have n4_ := Aside0.mk (blk_below (g := gb193) (o := .cells #[.int .i64 a0_0, .slice A0_1 l0_1.length c0_1] 24 (0, 0)) (by (with_reducible repeat (first | refine blk_drewN ?_ _ | refine blk_drew ?_ | refine blk_alloc ?_ _)); exact BK193.out) hb); have n5_ := Aside0.mk (blk_below (g := gb204) (o := .cells #[.int .i64 t199, .slice Ao24 t200.length co24] 28 (0, 0)) (by (with_reducible repeat (first | refine blk_drewN ?_ _ | refine blk_drew ?_ | refine blk_alloc ?_ _)); exact BK204.out) hb); have n6_ := Aside0.mk (blk_below (g := gb209) (o := .cells #[.int .i64 t205, .slice Ao31 t206.length co31] 28 (0, 0)) (by (with_reducible repeat (first | refine blk_drewN ?_ _ | refine blk_drew ?_ | refine blk_alloc ?_ _)); exact BK209.out) hb); have n7_ := Aside0.mk (below_step (by repeat (first | (with_reducible first | exact HB.out | apply below_alloc | apply pw_below_drewN | apply below_drew1 | refine below_set ?_ GE193.out | refine below_set ?_ GE204.out | refine below_set ?_ GE209.out) | exact HB.out)) hb); have n8_ := Aside0.mk (hbox); have n9_ := Aside0.mk ((by rw [hg]; exact (below_size (by repeat (first | (with_reducible first | exact HB.out | apply below_alloc | apply pw_below_drewN | apply below_drew1 | refine below_set ?_ GE193.out | refine below_set ?_ GE204.out | refine below_set ?_ GE209.out) | exact HB.out))) : w.heap.size ≤ gb215)); have n10_ := Aside0.mk ((by rw [hg]; exact (below_size (by repeat (first | (with_reducible first | exact HB.out | apply below_alloc | apply pw_below_drewN | apply below_drew1 | refine below_set ?_ GE193.out | refine below_set ?_ GE204.out | refine below_set ?_ GE209.out) | exact HB.out))) : w.heap.size ≤ gb215)); have n11_ := Aside0.mk ((by rw [hg]; exact Nat.ne_of_lt (blk_lt (g := gb193) (o := .cells #[.int .i64 a0_0, .slice A0_1 l0_1.length c0_1] 24 (0, 0)) (by (with_reducible repeat (first | refine blk_drewN ?_ _ | refine blk_drew ?_ | refine blk_alloc ?_ _)); exact BK193.out)) : gb193 ≠ gb215)); have n12_ := Aside0.mk ((by rw [hg]; exact Nat.ne_of_gt (blk_lt (g := gb193) (o := .cells #[.int .i64 a0_0, .slice A0_1 l0_1.length c0_1] 24 (0, 0)) (by (with_reducible repeat (first | refine blk_drewN ?_ _ | refine blk_drew ?_ | refine blk_alloc ?_ _)); exact BK193.out)) : gb215 ≠ gb193)); have n13_ := Aside0.mk ((by rw [hg]; exact Nat.ne_of_lt (blk_lt (g := gb204) (o := .cells #[.int .i64 t199, .slice Ao24 t200.length co24] 28 (0, 0)) (by (with_reducible repeat (first | refine blk_drewN ?_ _ | refine blk_drew ?_ | refine blk_alloc ?_ _)); exact BK204.out)) : gb204 ≠ gb215)); have n14_ := Aside0.mk ((by rw [hg]; exact Nat.ne_of_gt (blk_lt (g := gb204) (o := .cells #[.int .i64 t199, .slice Ao24 t200.length co24] 28 (0, 0)) (by (with_reducible repeat (first | refine blk_drewN ?_ _ | refine blk_drew ?_ | refine blk_alloc ?_ _)); exact BK204.out)) : gb215 ≠ gb204)); have n15_ := Aside0.mk ((by rw [hg]; exact Nat.ne_of_lt (blk_lt (g := gb209) (o := .cells #[.int .i64 t205, .slice Ao31 t206.length co31] 28 (0, 0)) (by (with_reducible repeat (first | refine blk_drewN ?_ _ | refine blk_drew ?_ | refine blk_alloc ?_ _)); exact BK209.out)) : gb209 ≠ gb215)); have n16_ := Aside0.mk ((by rw [hg]; exact Nat.ne_of_gt (blk_lt (g := gb209) (o := .cells #[.int .i64 t205, .slice Ao31 t206.length co31] 28 (0, 0)) (by (with_reducible repeat (first | refine blk_drewN ?_ _ | refine blk_drew ?_ | refine blk_alloc ?_ _)); exact BK209.out)) : gb215 ≠ gb209)); clear HO198; clear HO202; clear HO208; clear HO213; clear BK193; clear BK204; clear BK209; clear HB; have HO198 := n0_; have HO202 := n1_; have HO208 := n2_; have HO213 := n3_; have BK193 := n4_; have BK204 := n5_; have BK209 := n6_; have HB := n7_; have BK215 := n8_; have GW215 := n9_; have GE215 := n10_; have NB193_215 := n11_; have NB215_193 := n12_; have NB204_215 := n13_; have NB215_204 := n14_; have NB209_215 := n15_; have NB215_209 := n16_; clear n0_ n1_ n2_ n3_ n4_ n5_ n6_ n7_ n8_ n9_ n10_ n11_ n12_ n13_ n14_ n15_ n16_; clear hb hbox hg; have hnb34 := NB215_193.out; have hnc34 := NB193_215.out; have hnb35 := NB215_204.out; have hnc35 := NB204_215.out; have hnb36 := NB215_209.out; have hnc36 := NB209_215.out; have hcz37_0 : w33.cell? ⟨gb215, 0, none⟩ = some (.int .i64 0) := (blk_cell BK215.out 0).trans rfl; have hcz37_1 : w33.cell? ⟨gb215, 1, none⟩ = some (.slice none 0 0) := (blk_cell BK215.out 1).trans rfl; have hfz37_0 := blk_frozen BK215.out 0; have hfz37_1 := blk_frozen BK215.out 1; obtain ⟨Ao38, co38, eo38⟩ := Kd.R_slice HO213.out; subst eo38))
    (try simp only [Act.put, List.setIfInBounds_toArray, List.set_cons_zero, List.set_cons_succ])
    go_cut [48] (fun v48 wc => ∃ (kq : Nat) (x48_12 : Bool), v48 = .bool x48_12 ∧ Aside0 (laws_FnExactAddAnd.j0 kq a1 a2 t203 t214 x48_12 a0_0 l0_1 t199 t200 t205 t206 t210 t211 = some r) ∧ Aside0 (kq ≤ k) ∧ Aside0 (Kd.R k57 57 wc w.heap.size (fun k_ => some k_ ≠ ((.slice Ao31 t206.length co31) : Value).ownBlock ∧ some k_ ≠ ((.slice Ao38 t211.length co38) : Value).ownBlock) (.slice Ao24 t200.length co24) t200) ∧ Aside0 (Kd.R k57 57 wc w.heap.size (fun k_ => some k_ ≠ ((.slice Ao24 t200.length co24) : Value).ownBlock ∧ some k_ ≠ ((.slice Ao38 t211.length co38) : Value).ownBlock) (.slice Ao31 t206.length co31) t206) ∧ Aside0 (Kd.R k57 57 wc w.heap.size (fun k_ => some k_ ≠ ((.slice Ao24 t200.length co24) : Value).ownBlock ∧ some k_ ≠ ((.slice Ao31 t206.length co31) : Value).ownBlock) (.slice Ao38 t211.length co38) t211) ∧ Aside0 (wc.heap[gb193]? = some (.cells #[.int .i64 a0_0, (.slice A0_1 l0_1.length c0_1)] 24 (0, 0))) ∧ Aside0 (wc.heap[gb204]? = some (.cells #[.int .i64 t199, (.slice Ao24 t200.length co24)] 28 (0, 0))) ∧ Aside0 (wc.heap[gb209]? = some (.cells #[.int .i64 t205, (.slice Ao31 t206.length co31)] 28 (0, 0))) ∧ Aside0 (wc.heap[gb215]? = some (.cells #[.int .i64 t210, (.slice Ao38 t211.length co38)] 28 (0, 0))) ∧ Aside0 (Below w.heap.size w wc))
    case first =>
      have H := HC13.out
      clear HC13
      replace H := Option.bind_eq_some_iff.mp H
      obtain ⟨t216, A390, H⟩ := H
      replace H : (if t216 = true then (laws_FnExactAddAnd.j0 k a1 a2 t203 t214 (t214 != t203) a0_0 l0_1 t199 t200 t205 t206 t210 t211) else (laws_FnExactAddAnd.j0 k a1 a2 t203 t214 true a0_0 l0_1 t199 t200 t205 t206 t210 t211)) = some r := H
      have A39 := Aside0.mk A390
      clear A390
      by_cases c40 : t216 = true
      · subst c40
        have H1 : (laws_FnExactAddAnd.j0 k a1 a2 t203 t214 (t214 != t203) a0_0 l0_1 t199 t200 t205 t206 t210 t211) = some r := by rw [if_pos rfl] at H; exact H
        clear H
        have H := H1
        clear H1
        have H' := Aside0.mk H
        clear H
        have hnb41 := NB215_193.out
        have hnc41 := NB193_215.out
        have hnb42 := NB215_204.out
        have hnc42 := NB204_215.out
        have hnb43 := NB215_209.out
        have hnc43 := NB209_215.out
        have hcz44_0 : w33.cell? ⟨gb215, 0, none⟩ = some (.int .i64 0) := (blk_cell BK215.out 0).trans rfl
        have hcz44_1 : w33.cell? ⟨gb215, 1, none⟩ = some (.slice none 0 0) := (blk_cell BK215.out 1).trans rfl
        have hfz44_0 := blk_frozen BK215.out 0
        have hfz44_1 := blk_frozen BK215.out 1
        have hnb45 := NB204_193.out
        have hnc45 := NB193_204.out
        have hnb46 := NB204_209.out
        have hnc46 := NB209_204.out
        have hcz47_0 : w33.cell? ⟨gb204, 0, none⟩ = some (.int .i64 t199) := (blk_cell BK204.out 0).trans rfl
        have hcz47_1 : w33.cell? ⟨gb204, 1, none⟩ = some (.slice Ao24 t200.length co24) := (blk_cell BK204.out 1).trans rfl
        have hfz47_0 := blk_frozen BK204.out 0
        have hfz47_1 := blk_frozen BK204.out 1
        go_wp2_with (first | ((with_reducible refine gate_callee (f := 10) rfl ?_); refine goesL_ (some 42) rfl rfl Try.func10 (by kernel_rfl) rfl #[.agg #[.int .i64 t210, .slice Ao38 t211.length co38], .agg #[.int .i64 t199, .slice Ao24 t200.length co24]] rfl (by (try simp only [List.map_toArray, List.map_cons, List.map_nil]); first | done | rfl | (simp only [List.length_drop, List.length_take]; rfl)) ?_; (with_reducible refine (laws_eqCircuit.calls k t210 _ _ t211 t199 _ _ t200 true _ ?side1 ?side2 ?side3 ?side4 A39.out).mono ?_); (case side1 => refine (Kd.R_reads' (e := 57) (base := w.heap.size) (ok := fun k_ => (((True ∧ some k_ ≠ (.slice Ao19 t196.length co19 : Value).ownBlock) ∧ some k_ ≠ (.slice Ao24 t200.length co24 : Value).ownBlock) ∧ some k_ ≠ (.slice Ao31 t206.length co31 : Value).ownBlock)) (n := t211.length) (c := co38) ?_).2.2; exact (by (with_reducible repeat (first | apply Kd.R_alloc | apply Kd.R_drewN | apply Kd.R_drew)); exact (Kd.R_mono (Kd.R_far (p := ⟨gb215, 1, none⟩) (Kd.R_far (p := ⟨gb215, 0, none⟩) (Kd.R_types HO213.out BK215.out (by decide)) (fun _ hk => hk.2) (.int .i64 t210)) (fun _ hk => hk.2) (.slice Ao38 t211.length co38)) (fun _ h_ => h_.1)))); (case side2 => exact (Kd.R_reads' HO213.out).2.1); (case side3 => refine (Kd.R_reads' (e := 57) (base := w.heap.size) (ok := fun k_ => (((True ∧ some k_ ≠ (.slice Ao19 t196.length co19 : Value).ownBlock) ∧ some k_ ≠ (.slice Ao31 t206.length co31 : Value).ownBlock) ∧ some k_ ≠ (.slice Ao38 t211.length co38 : Value).ownBlock)) (n := t200.length) (c := co24) ?_).2.2; exact (by (with_reducible repeat (first | apply Kd.R_alloc | apply Kd.R_drewN | apply Kd.R_drew)); exact (Kd.R_mono (Kd.R_far (p := ⟨gb215, 1, none⟩) (Kd.R_far (p := ⟨gb215, 0, none⟩) (Kd.R_types HO202.out BK215.out (by decide)) (fun _ hk => hk.2) (.int .i64 t210)) (fun _ hk => hk.2) (.slice Ao38 t211.length co38)) (fun _ h_ => h_.1)))); (case side4 => exact (Kd.R_reads' HO202.out).2.1); rintro e w48 ⟨rfl, hb⟩; refine ⟨_, rfl, ?_⟩; have n0_ := Aside0.mk (Kd.R_below (by (with_reducible repeat (first | apply Kd.R_alloc | apply Kd.R_drewN | apply Kd.R_drew)); exact (Kd.R_mono (Kd.R_far (p := ⟨gb215, 1, none⟩) (Kd.R_far (p := ⟨gb215, 0, none⟩) (Kd.R_types HO198.out BK215.out (by decide)) (fun _ hk => hk.2) (.int .i64 t210)) (fun _ hk => hk.2) (.slice Ao38 t211.length co38)) (fun _ h_ => h_.1))) hb); have n1_ := Aside0.mk (Kd.R_below (by (with_reducible repeat (first | apply Kd.R_alloc | apply Kd.R_drewN | apply Kd.R_drew)); exact (Kd.R_mono (Kd.R_far (p := ⟨gb215, 1, none⟩) (Kd.R_far (p := ⟨gb215, 0, none⟩) (Kd.R_types HO202.out BK215.out (by decide)) (fun _ hk => hk.2) (.int .i64 t210)) (fun _ hk => hk.2) (.slice Ao38 t211.length co38)) (fun _ h_ => h_.1))) hb); have n2_ := Aside0.mk (Kd.R_below (by (with_reducible repeat (first | apply Kd.R_alloc | apply Kd.R_drewN | apply Kd.R_drew)); exact (Kd.R_mono (Kd.R_far (p := ⟨gb215, 1, none⟩) (Kd.R_far (p := ⟨gb215, 0, none⟩) (Kd.R_types HO208.out BK215.out (by decide)) (fun _ hk => hk.2) (.int .i64 t210)) (fun _ hk => hk.2) (.slice Ao38 t211.length co38)) (fun _ h_ => h_.1))) hb); have n3_ := Aside0.mk (Kd.R_below (by (with_reducible repeat (first | apply Kd.R_alloc | apply Kd.R_drewN | apply Kd.R_drew)); exact (Kd.R_mono (Kd.R_far (p := ⟨gb215, 1, none⟩) (Kd.R_far (p := ⟨gb215, 0, none⟩) (Kd.R_types HO213.out BK215.out (by decide)) (fun _ hk => hk.2) (.int .i64 t210)) (fun _ hk => hk.2) (.slice Ao38 t211.length co38)) (fun _ h_ => h_.1))) hb); have n4_ := Aside0.mk (blk_below (g := gb193) (o := .cells #[.int .i64 a0_0, .slice A0_1 l0_1.length c0_1] 24 (0, 0)) (by (with_reducible repeat (first | refine blk_drewN ?_ _ | refine blk_drew ?_ | refine blk_alloc ?_ _)); refine blk_far ?_ NB193_215.out _; (with_reducible repeat (first | refine blk_drewN ?_ _ | refine blk_drew ?_ | refine blk_alloc ?_ _)); refine blk_far ?_ NB193_215.out _; (with_reducible repeat (first | refine blk_drewN ?_ _ | refine blk_drew ?_ | refine blk_alloc ?_ _)); exact BK193.out) hb); have n5_ := Aside0.mk (blk_below (g := gb204) (o := .cells #[.int .i64 t199, .slice Ao24 t200.length co24] 28 (0, 0)) (by (with_reducible repeat (first | refine blk_drewN ?_ _ | refine blk_drew ?_ | refine blk_alloc ?_ _)); refine blk_far ?_ NB204_215.out _; (with_reducible repeat (first | refine blk_drewN ?_ _ | refine blk_drew ?_ | refine blk_alloc ?_ _)); refine blk_far ?_ NB204_215.out _; (with_reducible repeat (first | refine blk_drewN ?_ _ | refine blk_drew ?_ | refine blk_alloc ?_ _)); exact BK204.out) hb); have n6_ := Aside0.mk (blk_below (g := gb209) (o := .cells #[.int .i64 t205, .slice Ao31 t206.length co31] 28 (0, 0)) (by (with_reducible repeat (first | refine blk_drewN ?_ _ | refine blk_drew ?_ | refine blk_alloc ?_ _)); refine blk_far ?_ NB209_215.out _; (with_reducible repeat (first | refine blk_drewN ?_ _ | refine blk_drew ?_ | refine blk_alloc ?_ _)); refine blk_far ?_ NB209_215.out _; (with_reducible repeat (first | refine blk_drewN ?_ _ | refine blk_drew ?_ | refine blk_alloc ?_ _)); exact BK209.out) hb); have n7_ := Aside0.mk (blk_below (g := gb215) (o := .cells #[.int .i64 t210, .slice Ao38 t211.length co38] 28 (0, 0)) (by (with_reducible repeat (first | refine blk_drewN ?_ _ | refine blk_drew ?_ | refine blk_alloc ?_ _)); refine blk_put (cs := #[.int .i64 t210, .slice none 0 0]) ?_ 1 _ rfl; (with_reducible repeat (first | refine blk_drewN ?_ _ | refine blk_drew ?_ | refine blk_alloc ?_ _)); refine blk_put (cs := #[.int .i64 0, .slice none 0 0]) ?_ 0 _ rfl; (with_reducible repeat (first | refine blk_drewN ?_ _ | refine blk_drew ?_ | refine blk_alloc ?_ _)); exact BK215.out) hb); have n8_ := Aside0.mk (below_step (by repeat (first | (with_reducible first | exact HB.out | apply below_alloc | apply pw_below_drewN | apply below_drew1 | refine below_set ?_ GE193.out | refine below_set ?_ GE204.out | refine below_set ?_ GE209.out | refine below_set ?_ GE215.out) | exact HB.out)) hb); clear HO198; clear HO202; clear HO208; clear HO213; clear BK193; clear BK204; clear BK209; clear BK215; clear HB; have HO198 := n0_; have HO202 := n1_; have HO208 := n2_; have HO213 := n3_; have BK193 := n4_; have BK204 := n5_; have BK209 := n6_; have BK215 := n7_; have HB := n8_; clear n0_ n1_ n2_ n3_ n4_ n5_ n6_ n7_ n8_; (try clear hb); (try clear hb2); (try clear hk); (try clear hi)))
        go_meet
        case rel => exact ⟨_, ((t214 != t203)), (by first | rfl | (simp; done) | (simp [*]; done)), H', ⟨by first | omega | exact Nat.le_refl _⟩, ⟨by (with_reducible repeat (first | apply Kd.R_alloc | apply Kd.R_drewN | apply Kd.R_drew)); exact Kd.R_mono HO202.out (fun _ hk => ⟨hk.1.2, hk.2⟩)⟩, ⟨by (with_reducible repeat (first | apply Kd.R_alloc | apply Kd.R_drewN | apply Kd.R_drew)); exact Kd.R_mono HO208.out (fun _ hk => ⟨hk.1.2, hk.2⟩)⟩, ⟨by (with_reducible repeat (first | apply Kd.R_alloc | apply Kd.R_drewN | apply Kd.R_drew)); exact Kd.R_mono HO213.out (fun _ hk => ⟨hk.1.2, hk.2⟩)⟩, ⟨by (with_reducible repeat (first | refine blk_drewN ?_ _ | refine blk_drew ?_ | refine blk_alloc ?_ _)); exact BK193.out⟩, ⟨by (with_reducible repeat (first | refine blk_drewN ?_ _ | refine blk_drew ?_ | refine blk_alloc ?_ _)); exact BK204.out⟩, ⟨by (with_reducible repeat (first | refine blk_drewN ?_ _ | refine blk_drew ?_ | refine blk_alloc ?_ _)); exact BK209.out⟩, ⟨by (with_reducible repeat (first | refine blk_drewN ?_ _ | refine blk_drew ?_ | refine blk_alloc ?_ _)); exact BK215.out⟩, ⟨by repeat (first | (with_reducible first | exact HB.out | apply below_alloc | apply pw_below_drewN | apply below_drew1 | refine below_set ?_ GE193.out | refine below_set ?_ GE204.out | refine below_set ?_ GE209.out | refine below_set ?_ GE215.out) | exact HB.out)⟩⟩
      · replace c40 := Bool.eq_false_iff.mpr c40
        subst c40
        have H1 : (laws_FnExactAddAnd.j0 k a1 a2 t203 t214 true a0_0 l0_1 t199 t200 t205 t206 t210 t211) = some r := by rw [if_neg (show ¬ (false = true) by decide)] at H; exact H
        clear H
        have H := H1
        clear H1
        have H' := Aside0.mk H
        clear H
        have hnb49 := NB215_193.out
        have hnc49 := NB193_215.out
        have hnb50 := NB215_204.out
        have hnc50 := NB204_215.out
        have hnb51 := NB215_209.out
        have hnc51 := NB209_215.out
        have hcz52_0 : w33.cell? ⟨gb215, 0, none⟩ = some (.int .i64 0) := (blk_cell BK215.out 0).trans rfl
        have hcz52_1 : w33.cell? ⟨gb215, 1, none⟩ = some (.slice none 0 0) := (blk_cell BK215.out 1).trans rfl
        have hfz52_0 := blk_frozen BK215.out 0
        have hfz52_1 := blk_frozen BK215.out 1
        have hnb53 := NB204_193.out
        have hnc53 := NB193_204.out
        have hnb54 := NB204_209.out
        have hnc54 := NB209_204.out
        have hcz55_0 : w33.cell? ⟨gb204, 0, none⟩ = some (.int .i64 t199) := (blk_cell BK204.out 0).trans rfl
        have hcz55_1 : w33.cell? ⟨gb204, 1, none⟩ = some (.slice Ao24 t200.length co24) := (blk_cell BK204.out 1).trans rfl
        have hfz55_0 := blk_frozen BK204.out 0
        have hfz55_1 := blk_frozen BK204.out 1
        go_wp2_with (first | ((with_reducible refine gate_callee (f := 10) rfl ?_); refine goesL_ (some 42) rfl rfl Try.func10 (by kernel_rfl) rfl #[.agg #[.int .i64 t210, .slice Ao38 t211.length co38], .agg #[.int .i64 t199, .slice Ao24 t200.length co24]] rfl (by (try simp only [List.map_toArray, List.map_cons, List.map_nil]); first | done | rfl | (simp only [List.length_drop, List.length_take]; rfl)) ?_; (with_reducible refine (laws_eqCircuit.calls k t210 _ _ t211 t199 _ _ t200 false _ ?side1 ?side2 ?side3 ?side4 A39.out).mono ?_); (case side1 => refine (Kd.R_reads' (e := 57) (base := w.heap.size) (ok := fun k_ => (((True ∧ some k_ ≠ (.slice Ao19 t196.length co19 : Value).ownBlock) ∧ some k_ ≠ (.slice Ao24 t200.length co24 : Value).ownBlock) ∧ some k_ ≠ (.slice Ao31 t206.length co31 : Value).ownBlock)) (n := t211.length) (c := co38) ?_).2.2; exact (by (with_reducible repeat (first | apply Kd.R_alloc | apply Kd.R_drewN | apply Kd.R_drew)); exact (Kd.R_mono (Kd.R_far (p := ⟨gb215, 1, none⟩) (Kd.R_far (p := ⟨gb215, 0, none⟩) (Kd.R_types HO213.out BK215.out (by decide)) (fun _ hk => hk.2) (.int .i64 t210)) (fun _ hk => hk.2) (.slice Ao38 t211.length co38)) (fun _ h_ => h_.1)))); (case side2 => exact (Kd.R_reads' HO213.out).2.1); (case side3 => refine (Kd.R_reads' (e := 57) (base := w.heap.size) (ok := fun k_ => (((True ∧ some k_ ≠ (.slice Ao19 t196.length co19 : Value).ownBlock) ∧ some k_ ≠ (.slice Ao31 t206.length co31 : Value).ownBlock) ∧ some k_ ≠ (.slice Ao38 t211.length co38 : Value).ownBlock)) (n := t200.length) (c := co24) ?_).2.2; exact (by (with_reducible repeat (first | apply Kd.R_alloc | apply Kd.R_drewN | apply Kd.R_drew)); exact (Kd.R_mono (Kd.R_far (p := ⟨gb215, 1, none⟩) (Kd.R_far (p := ⟨gb215, 0, none⟩) (Kd.R_types HO202.out BK215.out (by decide)) (fun _ hk => hk.2) (.int .i64 t210)) (fun _ hk => hk.2) (.slice Ao38 t211.length co38)) (fun _ h_ => h_.1)))); (case side4 => exact (Kd.R_reads' HO202.out).2.1); rintro e w56 ⟨rfl, hb⟩; refine ⟨_, rfl, ?_⟩; have n0_ := Aside0.mk (Kd.R_below (by (with_reducible repeat (first | apply Kd.R_alloc | apply Kd.R_drewN | apply Kd.R_drew)); exact (Kd.R_mono (Kd.R_far (p := ⟨gb215, 1, none⟩) (Kd.R_far (p := ⟨gb215, 0, none⟩) (Kd.R_types HO198.out BK215.out (by decide)) (fun _ hk => hk.2) (.int .i64 t210)) (fun _ hk => hk.2) (.slice Ao38 t211.length co38)) (fun _ h_ => h_.1))) hb); have n1_ := Aside0.mk (Kd.R_below (by (with_reducible repeat (first | apply Kd.R_alloc | apply Kd.R_drewN | apply Kd.R_drew)); exact (Kd.R_mono (Kd.R_far (p := ⟨gb215, 1, none⟩) (Kd.R_far (p := ⟨gb215, 0, none⟩) (Kd.R_types HO202.out BK215.out (by decide)) (fun _ hk => hk.2) (.int .i64 t210)) (fun _ hk => hk.2) (.slice Ao38 t211.length co38)) (fun _ h_ => h_.1))) hb); have n2_ := Aside0.mk (Kd.R_below (by (with_reducible repeat (first | apply Kd.R_alloc | apply Kd.R_drewN | apply Kd.R_drew)); exact (Kd.R_mono (Kd.R_far (p := ⟨gb215, 1, none⟩) (Kd.R_far (p := ⟨gb215, 0, none⟩) (Kd.R_types HO208.out BK215.out (by decide)) (fun _ hk => hk.2) (.int .i64 t210)) (fun _ hk => hk.2) (.slice Ao38 t211.length co38)) (fun _ h_ => h_.1))) hb); have n3_ := Aside0.mk (Kd.R_below (by (with_reducible repeat (first | apply Kd.R_alloc | apply Kd.R_drewN | apply Kd.R_drew)); exact (Kd.R_mono (Kd.R_far (p := ⟨gb215, 1, none⟩) (Kd.R_far (p := ⟨gb215, 0, none⟩) (Kd.R_types HO213.out BK215.out (by decide)) (fun _ hk => hk.2) (.int .i64 t210)) (fun _ hk => hk.2) (.slice Ao38 t211.length co38)) (fun _ h_ => h_.1))) hb); have n4_ := Aside0.mk (blk_below (g := gb193) (o := .cells #[.int .i64 a0_0, .slice A0_1 l0_1.length c0_1] 24 (0, 0)) (by (with_reducible repeat (first | refine blk_drewN ?_ _ | refine blk_drew ?_ | refine blk_alloc ?_ _)); refine blk_far ?_ NB193_215.out _; (with_reducible repeat (first | refine blk_drewN ?_ _ | refine blk_drew ?_ | refine blk_alloc ?_ _)); refine blk_far ?_ NB193_215.out _; (with_reducible repeat (first | refine blk_drewN ?_ _ | refine blk_drew ?_ | refine blk_alloc ?_ _)); exact BK193.out) hb); have n5_ := Aside0.mk (blk_below (g := gb204) (o := .cells #[.int .i64 t199, .slice Ao24 t200.length co24] 28 (0, 0)) (by (with_reducible repeat (first | refine blk_drewN ?_ _ | refine blk_drew ?_ | refine blk_alloc ?_ _)); refine blk_far ?_ NB204_215.out _; (with_reducible repeat (first | refine blk_drewN ?_ _ | refine blk_drew ?_ | refine blk_alloc ?_ _)); refine blk_far ?_ NB204_215.out _; (with_reducible repeat (first | refine blk_drewN ?_ _ | refine blk_drew ?_ | refine blk_alloc ?_ _)); exact BK204.out) hb); have n6_ := Aside0.mk (blk_below (g := gb209) (o := .cells #[.int .i64 t205, .slice Ao31 t206.length co31] 28 (0, 0)) (by (with_reducible repeat (first | refine blk_drewN ?_ _ | refine blk_drew ?_ | refine blk_alloc ?_ _)); refine blk_far ?_ NB209_215.out _; (with_reducible repeat (first | refine blk_drewN ?_ _ | refine blk_drew ?_ | refine blk_alloc ?_ _)); refine blk_far ?_ NB209_215.out _; (with_reducible repeat (first | refine blk_drewN ?_ _ | refine blk_drew ?_ | refine blk_alloc ?_ _)); exact BK209.out) hb); have n7_ := Aside0.mk (blk_below (g := gb215) (o := .cells #[.int .i64 t210, .slice Ao38 t211.length co38] 28 (0, 0)) (by (with_reducible repeat (first | refine blk_drewN ?_ _ | refine blk_drew ?_ | refine blk_alloc ?_ _)); refine blk_put (cs := #[.int .i64 t210, .slice none 0 0]) ?_ 1 _ rfl; (with_reducible repeat (first | refine blk_drewN ?_ _ | refine blk_drew ?_ | refine blk_alloc ?_ _)); refine blk_put (cs := #[.int .i64 0, .slice none 0 0]) ?_ 0 _ rfl; (with_reducible repeat (first | refine blk_drewN ?_ _ | refine blk_drew ?_ | refine blk_alloc ?_ _)); exact BK215.out) hb); have n8_ := Aside0.mk (below_step (by repeat (first | (with_reducible first | exact HB.out | apply below_alloc | apply pw_below_drewN | apply below_drew1 | refine below_set ?_ GE193.out | refine below_set ?_ GE204.out | refine below_set ?_ GE209.out | refine below_set ?_ GE215.out) | exact HB.out)) hb); clear HO198; clear HO202; clear HO208; clear HO213; clear BK193; clear BK204; clear BK209; clear BK215; clear HB; have HO198 := n0_; have HO202 := n1_; have HO208 := n2_; have HO213 := n3_; have BK193 := n4_; have BK204 := n5_; have BK209 := n6_; have BK215 := n7_; have HB := n8_; clear n0_ n1_ n2_ n3_ n4_ n5_ n6_ n7_ n8_; (try clear hb); (try clear hb2); (try clear hk); (try clear hi)))
        go_meet
        case rel => exact ⟨_, (true), (by first | rfl | (simp; done) | (simp [*]; done)), H', ⟨by first | omega | exact Nat.le_refl _⟩, ⟨by (with_reducible repeat (first | apply Kd.R_alloc | apply Kd.R_drewN | apply Kd.R_drew)); exact Kd.R_mono HO202.out (fun _ hk => ⟨hk.1.2, hk.2⟩)⟩, ⟨by (with_reducible repeat (first | apply Kd.R_alloc | apply Kd.R_drewN | apply Kd.R_drew)); exact Kd.R_mono HO208.out (fun _ hk => ⟨hk.1.2, hk.2⟩)⟩, ⟨by (with_reducible repeat (first | apply Kd.R_alloc | apply Kd.R_drewN | apply Kd.R_drew)); exact Kd.R_mono HO213.out (fun _ hk => ⟨hk.1.2, hk.2⟩)⟩, ⟨by (with_reducible repeat (first | refine blk_drewN ?_ _ | refine blk_drew ?_ | refine blk_alloc ?_ _)); exact BK193.out⟩, ⟨by (with_reducible repeat (first | refine blk_drewN ?_ _ | refine blk_drew ?_ | refine blk_alloc ?_ _)); exact BK204.out⟩, ⟨by (with_reducible repeat (first | refine blk_drewN ?_ _ | refine blk_drew ?_ | refine blk_alloc ?_ _)); exact BK209.out⟩, ⟨by (with_reducible repeat (first | refine blk_drewN ?_ _ | refine blk_drew ?_ | refine blk_alloc ?_ _)); exact BK215.out⟩, ⟨by repeat (first | (with_reducible first | exact HB.out | apply below_alloc | apply pw_below_drewN | apply below_drew1 | refine below_set ?_ GE193.out | refine below_set ?_ GE204.out | refine below_set ?_ GE209.out | refine below_set ?_ GE215.out) | exact HB.out)⟩⟩
    case rest =>
      clear HC13
      try clear c1
      try clear c2
      try clear p2
      try clear c3
      try clear c4
      try clear c5
      try clear c5b0
      try clear c6
      try clear c7
      try clear c8
      try clear c9
      try clear c10
      try clear c22
      try clear c28
      try clear c29
      try clear c34
      try clear c35
      try clear c36
      try clear c40
      try clear c41
      try clear c42
      try clear c43
      try clear c45
      try clear c46
      try clear c49
      try clear c50
      try clear c51
      try clear c53
      try clear c54
      try clear hcz15_0
      try clear hcz15_1
      try clear hcz17_0
      try clear hcz17_1
      try clear hcz23_0
      try clear hcz23_1
      try clear hcz25_0
      try clear hcz25_1
      try clear hcz30_0
      try clear hcz30_1
      try clear hcz37_0
      try clear hcz37_1
      try clear hcz44_0
      try clear hcz44_1
      try clear hcz47_0
      try clear hcz47_1
      try clear hcz52_0
      try clear hcz52_1
      try clear hcz55_0
      try clear hcz55_1
      try clear hcz7_0
      try clear hcz7_1
      try clear hfz15_0
      try clear hfz15_1
      try clear hfz17_0
      try clear hfz17_1
      try clear hfz23_0
      try clear hfz23_1
      try clear hfz25_0
      try clear hfz25_1
      try clear hfz30_0
      try clear hfz30_1
      try clear hfz37_0
      try clear hfz37_1
      try clear hfz44_0
      try clear hfz44_1
      try clear hfz47_0
      try clear hfz47_1
      try clear hfz52_0
      try clear hfz52_1
      try clear hfz55_0
      try clear hfz55_1
      try clear hfz7_0
      try clear hfz7_1
      obtain ⟨kq, x48_12, rfl, HA, HJ12, HO_205001, HO_210001, HO_216001, BK193, BK204, BK209, BK215, HB⟩ := hcut
      cases kq with
      | zero => exact absurd HA.out (by simp [laws_FnExactAddAnd.j0])
      | succ kj12 =>
        have H := HA.out
        clear HA
        simp only [laws_FnExactAddAnd.j0] at H
        by_cases c57 : x48_12 = true
        · subst c57
          have H1 : (some false) = some r := by rw [if_pos rfl] at H; exact H
          clear H
          have H := H1
          clear H1
          obtain rfl := Option.some.inj H
          go_wp2
          go_ret
          exact ⟨by first | rfl | (simp [errW_none, errW_some] <;> rfl) | (simp [*, errW_none, errW_some] <;> rfl), by repeat (first | (with_reducible first | exact HB.out | apply below_alloc | apply pw_below_drewN | apply below_drew1 | refine below_set ?_ GE193.out | refine below_set ?_ GE204.out | refine below_set ?_ GE209.out | refine below_set ?_ GE215.out) | exact HB.out)⟩
        · replace c57 := Bool.eq_false_iff.mpr c57
          subst c57
          have H1 : ((laws_toCircuit.f kj12 a0_0 l0_1).bind fun bt217 => ((laws_eqCircuit.f kj12 t205 t206 bt217.1 bt217.2).bind fun t221 => (if t221 = true then ((laws_markCircuit.f kj12 t205 t206 1).bind fun bt222 => (if bt222.1 < 0 then (laws_FnExactAddAnd.j1 kj12 a1 a2 t203 true a0_0 l0_1 t199 t200 t210 t211) else ((laws_eqCircuit.f kj12 t210 t211 t199 t200).bind fun t224 => (if t224 = true then (laws_FnExactAddAnd.j1 kj12 a1 a2 t203 (t214 != t203) a0_0 l0_1 t199 t200 t210 t211) else (laws_FnExactAddAnd.j1 kj12 a1 a2 t203 true a0_0 l0_1 t199 t200 t210 t211))))) else (some false)))) = some r := by rw [if_neg (show ¬ (false = true) by decide)] at H; exact H
          clear H
          have H := H1
          clear H1
          replace H := Option.bind_eq_some_iff.mp H
          obtain ⟨⟨t217, t218⟩, A580, H⟩ := H
          replace H : ((laws_eqCircuit.f kj12 t205 t206 t217 t218).bind fun t221 => (if t221 = true then ((laws_markCircuit.f kj12 t205 t206 1).bind fun bt222 => (if bt222.1 < 0 then (laws_FnExactAddAnd.j1 kj12 a1 a2 t203 true a0_0 l0_1 t199 t200 t210 t211) else ((laws_eqCircuit.f kj12 t210 t211 t199 t200).bind fun t224 => (if t224 = true then (laws_FnExactAddAnd.j1 kj12 a1 a2 t203 (t214 != t203) a0_0 l0_1 t199 t200 t210 t211) else (laws_FnExactAddAnd.j1 kj12 a1 a2 t203 true a0_0 l0_1 t199 t200 t210 t211))))) else (some false))) = some r := H
          have A58 := Aside0.mk A580
          clear A580
          replace H := Option.bind_eq_some_iff.mp H
          obtain ⟨t221, A590, H⟩ := H
          replace H : (if t221 = true then ((laws_markCircuit.f kj12 t205 t206 1).bind fun bt222 => (if bt222.1 < 0 then (laws_FnExactAddAnd.j1 kj12 a1 a2 t203 true a0_0 l0_1 t199 t200 t210 t211) else ((laws_eqCircuit.f kj12 t210 t211 t199 t200).bind fun t224 => (if t224 = true then (laws_FnExactAddAnd.j1 kj12 a1 a2 t203 (t214 != t203) a0_0 l0_1 t199 t200 t210 t211) else (laws_FnExactAddAnd.j1 kj12 a1 a2 t203 true a0_0 l0_1 t199 t200 t210 t211))))) else (some false)) = some r := H
          have A59 := Aside0.mk A590
          clear A590
          by_cases c60 : t221 = true
          · subst c60
            have H1 : ((laws_markCircuit.f kj12 t205 t206 1).bind fun bt222 => (if bt222.1 < 0 then (laws_FnExactAddAnd.j1 kj12 a1 a2 t203 true a0_0 l0_1 t199 t200 t210 t211) else ((laws_eqCircuit.f kj12 t210 t211 t199 t200).bind fun t224 => (if t224 = true then (laws_FnExactAddAnd.j1 kj12 a1 a2 t203 (t214 != t203) a0_0 l0_1 t199 t200 t210 t211) else (laws_FnExactAddAnd.j1 kj12 a1 a2 t203 true a0_0 l0_1 t199 t200 t210 t211))))) = some r := by rw [if_pos rfl] at H; exact H
            clear H
            have H := H1
            clear H1
            replace H := Option.bind_eq_some_iff.mp H
            obtain ⟨⟨t222, t223⟩, A610, H⟩ := H
            replace H : (if t222 < 0 then (laws_FnExactAddAnd.j1 kj12 a1 a2 t203 true a0_0 l0_1 t199 t200 t210 t211) else ((laws_eqCircuit.f kj12 t210 t211 t199 t200).bind fun t224 => (if t224 = true then (laws_FnExactAddAnd.j1 kj12 a1 a2 t203 (t214 != t203) a0_0 l0_1 t199 t200 t210 t211) else (laws_FnExactAddAnd.j1 kj12 a1 a2 t203 true a0_0 l0_1 t199 t200 t210 t211)))) = some r := H
            have A61 := Aside0.mk A610
            clear A610
            have HC62 := Aside0.mk H
            clear H
            try go_wp2
            have n0_ := Aside0.mk (Kd.R_drew HO_205001.out)
            have n1_ := Aside0.mk (Kd.R_drew HO_210001.out)
            have n2_ := Aside0.mk (Kd.R_drew HO_216001.out)
            have n3_ := Aside0.mk (blk_drew BK193.out)
            have n4_ := Aside0.mk (blk_drew BK204.out)
            have n5_ := Aside0.mk (blk_drew BK209.out)
            have n6_ := Aside0.mk (blk_drew BK215.out)
            have n7_ := Aside0.mk (below_drew1 HB.out)
            clear HO_205001
            clear HO_210001
            clear HO_216001
            clear BK193
            clear BK204
            clear BK209
            clear BK215
            clear HB
            have HO_205001 := n0_
            have HO_210001 := n1_
            have HO_216001 := n2_
            have BK193 := n3_
            have BK204 := n4_
            have BK209 := n5_
            have BK215 := n6_
            have HB := n7_
            clear n0_ n1_ n2_ n3_ n4_ n5_ n6_ n7_
            refine start_ (n := 5) (S := fun w' => w'.cell? ⟨gb209, 0, none⟩ = some (.int .i64 t205) ∧ w'.cell? ⟨gb209, 1, none⟩ = some (.slice Ao31 t206.length co31) ∧ w'.cell? ⟨gb193, 0, none⟩ = some (.int .i64 a0_0) ∧ w'.cell? ⟨gb193, 1, none⟩ = some (.slice A0_1 l0_1.length c0_1)) (ds := []) #[false, false, false, false, false] (by kernel_rfl) rfl rfl ⟨(blk_cell BK209.out 0).trans rfl, (blk_cell BK209.out 1).trans rfl, (blk_cell BK193.out 0).trans rfl, (blk_cell BK193.out 1).trans rfl⟩ (fun hHeld => ?_)
            generalize wc.drew = w63 at HO_205001 HO_210001 HO_216001 BK193 BK204 BK209 BK215 HB hHeld ⊢
            refine take_ (i := 0) (N := some 49) (v := ?_) (a' := ?_) #[true, false, false, false, false] rfl rfl (by kernel_rfl) (fun _ _ _ h => h) (Or.inl ⟨by rfl, ?_⟩) hHeld ?_ ?_
            rotate_left
            · rintro w' ⟨s0, s1, s2, s3⟩
              go_simp
              with_reducible rfl
            rotate_left
            · simp only [Act.put, List.setIfInBounds_toArray, List.set_cons_zero, List.set_cons_succ, i64_w, i32_w]
              rfl
            refine take_ (i := 1) (N := some 50) (v := ?_) (a' := ?_) #[true, true, false, false, false] rfl rfl (by kernel_rfl) (fun _ _ _ h => h) (Or.inl ⟨by rfl, ?_⟩) hHeld ?_ ?_
            rotate_left
            · rintro w' ⟨s0, s1, s2, s3⟩
              go_simp
              with_reducible rfl
            rotate_left
            · simp only [Act.put, List.setIfInBounds_toArray, List.set_cons_zero, List.set_cons_succ, i64_w, i32_w]
              rfl
            refine one_ (i := 2) (N := some 51) #[true, true, true, false, false] rfl rfl (by kernel_rfl) (by decide) (fun K hK => ?_)
            refine goes_ Try.func8 (by kernel_rfl) rfl #[.agg #[.int .i64 a0_0, .slice A0_1 l0_1.length c0_1]] (by rfl) rfl rfl (by (try simp only [List.map_toArray, List.map_cons, List.map_nil]); first | done | rfl | (simp only [List.length_drop, List.length_take]; rfl)) ?_
            with_reducible refine (laws_toCircuit.calls kj12 a0_0 _ _ l0_1 t217 t218 _ ?side1 ?side2 A58.out).mono ?_
            (case side1 => repeat (first | exact (Kd.C_below HR0_1.out HB.out) | (with_reducible refine Kd.C_alloc ?_ _) | (with_reducible refine Kd.C_drewN ?_ _) | (with_reducible refine Kd.C_drew ?_)))
            (case side2 => exact HC0_1.out)
            rintro e w64 ⟨v219, rfl, ho0, hb⟩
            refine ⟨_, rfl, ?_⟩
            have n0_ := Aside0.mk (Kd.R_elder' (by (with_reducible repeat (first | apply Kd.R_alloc | apply Kd.R_drewN | apply Kd.R_drew)); exact HO_205001.out) (Kd.R_base ho0) hb)
            have n1_ := Aside0.mk (Kd.R_elder' (by (with_reducible repeat (first | apply Kd.R_alloc | apply Kd.R_drewN | apply Kd.R_drew)); exact HO_210001.out) (Kd.R_base ho0) hb)
            have n2_ := Aside0.mk (Kd.R_elder' (by (with_reducible repeat (first | apply Kd.R_alloc | apply Kd.R_drewN | apply Kd.R_drew)); exact HO_216001.out) (Kd.R_base ho0) hb)
            have n3_ := Aside0.mk (Kd.R_lower (Kd.R_new' (Kd.R_new' (Kd.R_new' ho0 (Kd.R_lt (by (with_reducible repeat (first | apply Kd.R_alloc | apply Kd.R_drewN | apply Kd.R_drew)); exact HO_205001.out))) (Kd.R_lt (by (with_reducible repeat (first | apply Kd.R_alloc | apply Kd.R_drewN | apply Kd.R_drew)); exact HO_210001.out))) (Kd.R_lt (by (with_reducible repeat (first | apply Kd.R_alloc | apply Kd.R_drewN | apply Kd.R_drew)); exact HO_216001.out))) (below_size (by repeat (first | (with_reducible first | exact HB.out | apply below_alloc | apply pw_below_drewN | apply below_drew1 | refine below_set ?_ GE193.out | refine below_set ?_ GE204.out | refine below_set ?_ GE209.out | refine below_set ?_ GE215.out) | exact HB.out))))
            have n4_ := Aside0.mk (blk_below (g := gb193) (o := .cells #[.int .i64 a0_0, .slice A0_1 l0_1.length c0_1] 24 (0, 0)) (by (with_reducible repeat (first | refine blk_drewN ?_ _ | refine blk_drew ?_ | refine blk_alloc ?_ _)); exact BK193.out) hb)
            have n5_ := Aside0.mk (blk_below (g := gb204) (o := .cells #[.int .i64 t199, .slice Ao24 t200.length co24] 28 (0, 0)) (by (with_reducible repeat (first | refine blk_drewN ?_ _ | refine blk_drew ?_ | refine blk_alloc ?_ _)); exact BK204.out) hb)
            have n6_ := Aside0.mk (blk_below (g := gb209) (o := .cells #[.int .i64 t205, .slice Ao31 t206.length co31] 28 (0, 0)) (by (with_reducible repeat (first | refine blk_drewN ?_ _ | refine blk_drew ?_ | refine blk_alloc ?_ _)); exact BK209.out) hb)
            have n7_ := Aside0.mk (blk_below (g := gb215) (o := .cells #[.int .i64 t210, .slice Ao38 t211.length co38] 28 (0, 0)) (by (with_reducible repeat (first | refine blk_drewN ?_ _ | refine blk_drew ?_ | refine blk_alloc ?_ _)); exact BK215.out) hb)
            have n8_ := Aside0.mk (below_step (by repeat (first | (with_reducible first | exact HB.out | apply below_alloc | apply pw_below_drewN | apply below_drew1 | refine below_set ?_ GE193.out | refine below_set ?_ GE204.out | refine below_set ?_ GE209.out | refine below_set ?_ GE215.out) | exact HB.out)) hb)
            clear HO_205001
            clear HO_210001
            clear HO_216001
            clear BK193
            clear BK204
            clear BK209
            clear BK215
            clear HB
            have HO_205001 := n0_
            have HO_210001 := n1_
            have HO_216001 := n2_
            have HO220 := n3_
            have BK193 := n4_
            have BK204 := n5_
            have BK209 := n6_
            have BK215 := n7_
            have HB := n8_
            clear n0_ n1_ n2_ n3_ n4_ n5_ n6_ n7_ n8_
            (try clear hb)
            (try clear hb2)
            (try clear hk)
            (try clear hi)
            (try clear ho0)
            obtain ⟨Ao65, co65, eo65⟩ := Kd.R_slice HO220.out
            (first | subst eo65 | (injection eo65 with f1_ f2_ f3_; have f4_ := f1_.symm; have f5_ := f3_.symm; clear f1_ f2_ f3_; subst f4_; subst f5_))
            refine hK.out _ _ ⟨(blk_cell BK209.out 0).trans rfl, (blk_cell BK209.out 1).trans rfl, (blk_cell BK193.out 0).trans rfl, (blk_cell BK193.out 1).trans rfl⟩ (fun hHeld => ?_)
            clear hK K
            refine norm_ (a' := ?_) ?_ ?_
            rotate_left
            · show Act.put _ (some 51) _ = _
              simp only [Act.put, List.setIfInBounds_toArray, List.set_cons_zero, List.set_cons_succ, i64_w, i32_w]
              rfl
            refine one_ (i := 3) (N := some 52) #[true, true, true, true, false] rfl rfl (by kernel_rfl) (by decide) (fun K hK => ?_)
            refine goes_ Try.func10 (by kernel_rfl) rfl #[.agg #[.int .i64 t205, .slice Ao31 t206.length co31], .agg #[.int .i64 t217, .slice Ao65 t218.length co65]] (by rfl) rfl rfl (by (try simp only [List.map_toArray, List.map_cons, List.map_nil]); first | done | rfl | (simp only [List.length_drop, List.length_take]; rfl)) ?_
            with_reducible refine (laws_eqCircuit.calls kj12 t205 _ _ t206 t217 _ _ t218 true _ ?side1 ?side2 ?side3 ?side4 A59.out).mono ?_
            (case side1 => repeat (first | exact (Kd.R_reads' HO_210001.out).2.2 | (with_reducible refine Kd.C_alloc ?_ _) | (with_reducible refine Kd.C_drewN ?_ _) | (with_reducible refine Kd.C_drew ?_)))
            (case side2 => exact (Kd.R_reads' HO_210001.out).2.1)
            (case side3 => repeat (first | exact (Kd.R_reads' HO220.out).2.2 | (with_reducible refine Kd.C_alloc ?_ _) | (with_reducible refine Kd.C_drewN ?_ _) | (with_reducible refine Kd.C_drew ?_)))
            (case side4 => exact (Kd.R_reads' HO220.out).2.1)
            rintro e w66 ⟨rfl, hb⟩
            refine ⟨_, rfl, ?_⟩
            have n0_ := Aside0.mk (Kd.R_below (by (with_reducible repeat (first | apply Kd.R_alloc | apply Kd.R_drewN | apply Kd.R_drew)); exact HO_205001.out) hb)
            have n1_ := Aside0.mk (Kd.R_below (by (with_reducible repeat (first | apply Kd.R_alloc | apply Kd.R_drewN | apply Kd.R_drew)); exact HO_210001.out) hb)
            have n2_ := Aside0.mk (Kd.R_below (by (with_reducible repeat (first | apply Kd.R_alloc | apply Kd.R_drewN | apply Kd.R_drew)); exact HO_216001.out) hb)
            have n3_ := Aside0.mk (Kd.R_below (by (with_reducible repeat (first | apply Kd.R_alloc | apply Kd.R_drewN | apply Kd.R_drew)); exact HO220.out) hb)
            have n4_ := Aside0.mk (blk_below (g := gb193) (o := .cells #[.int .i64 a0_0, .slice A0_1 l0_1.length c0_1] 24 (0, 0)) (by (with_reducible repeat (first | refine blk_drewN ?_ _ | refine blk_drew ?_ | refine blk_alloc ?_ _)); exact BK193.out) hb)
            have n5_ := Aside0.mk (blk_below (g := gb204) (o := .cells #[.int .i64 t199, .slice Ao24 t200.length co24] 28 (0, 0)) (by (with_reducible repeat (first | refine blk_drewN ?_ _ | refine blk_drew ?_ | refine blk_alloc ?_ _)); exact BK204.out) hb)
            have n6_ := Aside0.mk (blk_below (g := gb209) (o := .cells #[.int .i64 t205, .slice Ao31 t206.length co31] 28 (0, 0)) (by (with_reducible repeat (first | refine blk_drewN ?_ _ | refine blk_drew ?_ | refine blk_alloc ?_ _)); exact BK209.out) hb)
            have n7_ := Aside0.mk (blk_below (g := gb215) (o := .cells #[.int .i64 t210, .slice Ao38 t211.length co38] 28 (0, 0)) (by (with_reducible repeat (first | refine blk_drewN ?_ _ | refine blk_drew ?_ | refine blk_alloc ?_ _)); exact BK215.out) hb)
            have n8_ := Aside0.mk (below_step (by repeat (first | (with_reducible first | exact HB.out | apply below_alloc | apply pw_below_drewN | apply below_drew1 | refine below_set ?_ GE193.out | refine below_set ?_ GE204.out | refine below_set ?_ GE209.out | refine below_set ?_ GE215.out) | exact HB.out)) hb)
            clear HO_205001
            clear HO_210001
            clear HO_216001
            clear HO220
            clear BK193
            clear BK204
            clear BK209
            clear BK215
            clear HB
            have HO_205001 := n0_
            have HO_210001 := n1_
            have HO_216001 := n2_
            have HO220 := n3_
            have BK193 := n4_
            have BK204 := n5_
            have BK209 := n6_
            have BK215 := n7_
            have HB := n8_
            clear n0_ n1_ n2_ n3_ n4_ n5_ n6_ n7_ n8_
            (try clear hb)
            (try clear hb2)
            (try clear hk)
            (try clear hi)
            refine hK.out _ _ ⟨(blk_cell BK209.out 0).trans rfl, (blk_cell BK209.out 1).trans rfl, (blk_cell BK193.out 0).trans rfl, (blk_cell BK193.out 1).trans rfl⟩ (fun hHeld => ?_)
            clear hK K
            refine norm_ (a' := ?_) ?_ ?_
            rotate_left
            · show Act.put _ (some 52) _ = _
              simp only [Act.put, List.setIfInBounds_toArray, List.set_cons_zero, List.set_cons_succ, i64_w, i32_w]
              rfl
            refine pure_ (i := 4) (N := some 53) (v := ?_) (a' := ?_) #[true, true, true, true, true] rfl rfl (by kernel_rfl) (fun _ _ _ h => h) (Or.inl ⟨by rfl, ?_⟩) ?_ ?_
            rotate_left
            · intro w'
              go_simp
              with_reducible rfl
            rotate_left
            · simp only [Act.put, List.setIfInBounds_toArray, List.set_cons_zero, List.set_cons_succ, i64_w, i32_w]
              rfl
            refine done_ (by kernel_rfl) ?_
            have hnb67 := NB209_193.out
            have hnc67 := NB193_209.out
            have hnb68 := NB209_204.out
            have hnc68 := NB204_209.out
            have hnb69 := NB209_215.out
            have hnc69 := NB215_209.out
            have hcz70_0 : w66.cell? ⟨gb209, 0, none⟩ = some (.int .i64 t205) := (blk_cell BK209.out 0).trans rfl
            have hcz70_1 : w66.cell? ⟨gb209, 1, none⟩ = some (.slice Ao31 t206.length co31) := (blk_cell BK209.out 1).trans rfl
            have hfz70_0 := blk_frozen BK209.out 0
            have hfz70_1 := blk_frozen BK209.out 1
            go_upto_region 14 with (first | ((with_reducible refine gate_callee (f := 11) rfl ?_); refine goesL_ (some 56) rfl rfl Try.func11 (by kernel_rfl) rfl #[.agg #[.int .i64 t205, .slice Ao31 t206.length co31], .int .i64 1] rfl (by (try simp only [List.map_toArray, List.map_cons, List.map_nil]); first | done | rfl | (simp only [List.length_drop, List.length_take]; rfl)) ?_; (with_reducible refine (laws_markCircuit.calls kj12 t205 (fun k_ => some k_ = (.slice Ao31 t206.length co31 : Value).ownBlock) (.slice Ao31 t206.length co31) t206 1 t222 t223 w _ ?side1 ?side2 A61.out).mono ?_); (case side1 => repeat (first | (with_reducible first | exact HB.out | apply below_alloc | apply pw_below_drewN | apply below_drew1 | refine below_set ?_ GE193.out | refine below_set ?_ GE204.out | refine below_set ?_ GE209.out | refine below_set ?_ GE215.out) | exact HB.out)); (case side2 => exact Kd.R_tight rfl HO_210001.out); rintro e w71 ⟨rfl, hy0, hb, hkp⟩; refine ⟨_, rfl, ?_⟩; have n0_ := Aside0.mk (Kd.R_mono (ok' := fun k_ => some k_ ≠ (.slice Ao31 t206.length co31 : Value).ownBlock ∧ some k_ ≠ (.slice Ao38 t211.length co38 : Value).ownBlock ∧ some k_ ≠ (.slice Ao65 t218.length co65 : Value).ownBlock) (Kd.R_keptB (HO_205001.out) hkp (fun k_ hk_ hs_ => (hk_.1.1) hs_)) (fun k_ hk_ => ⟨hk_.1.1.1, hk_.1.1.2, hk_.1.2⟩)); have n1_ := Aside0.mk (Kd.R_reok rfl hy0 (fun k_ e_ => HO_210001.out.1 k_ e_)); have n2_ := Aside0.mk (Kd.R_mono (ok' := fun k_ => some k_ ≠ (.slice Ao24 t200.length co24 : Value).ownBlock ∧ some k_ ≠ (.slice Ao31 t206.length co31 : Value).ownBlock ∧ some k_ ≠ (.slice Ao65 t218.length co65 : Value).ownBlock) (Kd.R_keptB (HO_216001.out) hkp (fun k_ hk_ hs_ => (hk_.1.2) hs_)) (fun k_ hk_ => ⟨hk_.1.1.1, hk_.1.1.2, hk_.1.2⟩)); have n3_ := Aside0.mk (blk_kept (by (with_reducible repeat (first | refine blk_drewN ?_ _ | refine blk_drew ?_ | refine blk_alloc ?_ _)); exact BK193.out) hkp (fun hs_ => (fun e_ => (Kd.R_ne HO_210001.out BK193.out (by decide)) e_) hs_)); have n4_ := Aside0.mk (blk_kept (by (with_reducible repeat (first | refine blk_drewN ?_ _ | refine blk_drew ?_ | refine blk_alloc ?_ _)); exact BK204.out) hkp (fun hs_ => (fun e_ => (Kd.R_ne HO_210001.out BK204.out (by decide)) e_) hs_)); have n5_ := Aside0.mk (blk_kept (by (with_reducible repeat (first | refine blk_drewN ?_ _ | refine blk_drew ?_ | refine blk_alloc ?_ _)); exact BK209.out) hkp (fun hs_ => (fun e_ => (Kd.R_ne HO_210001.out BK209.out (by decide)) e_) hs_)); have n6_ := Aside0.mk (blk_kept (by (with_reducible repeat (first | refine blk_drewN ?_ _ | refine blk_drew ?_ | refine blk_alloc ?_ _)); exact BK215.out) hkp (fun hs_ => (fun e_ => (Kd.R_ne HO_210001.out BK215.out (by decide)) e_) hs_)); have n7_ := Aside0.mk (Kd.R_mono (ok' := fun k_ => some k_ ≠ (.slice Ao24 t200.length co24 : Value).ownBlock ∧ some k_ ≠ (.slice Ao31 t206.length co31 : Value).ownBlock ∧ some k_ ≠ (.slice Ao38 t211.length co38 : Value).ownBlock) (Kd.R_keptB (HO220.out) hkp (fun k_ hk_ hs_ => (hk_.1.2) hs_)) (fun k_ hk_ => ⟨hk_.1.1.1.2, hk_.1.1.2, hk_.1.2⟩)); have n8_ := Aside0.mk (hb); clear HO_205001; clear HO_210001; clear HO_216001; clear BK193; clear BK204; clear BK209; clear BK215; clear HO220; clear HB; have HO_205001 := n0_; have HO_210001 := n1_; have HO_216001 := n2_; have BK193 := n3_; have BK204 := n4_; have BK209 := n5_; have BK215 := n6_; have HO220 := n7_; have HB := n8_; clear n0_ n1_ n2_ n3_ n4_ n5_ n6_ n7_ n8_; (try clear hb); (try clear hkp); (try clear hy0)))
            (try simp only [Act.put, List.setIfInBounds_toArray, List.set_cons_zero, List.set_cons_succ])
            go_cut [69] (fun v69 wc => ∃ (kq : Nat) (x69_61 : Bool), v69 = .bool x69_61 ∧ Aside0 (laws_FnExactAddAnd.j1 kq a1 a2 t203 x69_61 a0_0 l0_1 t199 t200 t210 t211 = some r) ∧ Aside0 (kq ≤ kj12) ∧ Aside0 (Kd.R k57 57 wc w.heap.size (fun k_ => some k_ ≠ ((.slice Ao31 t206.length co31) : Value).ownBlock ∧ some k_ ≠ ((.slice Ao38 t211.length co38) : Value).ownBlock) (.slice Ao24 t200.length co24) t200) ∧ Aside0 (Kd.R k57 57 wc w.heap.size (fun k_ => some k_ ≠ ((.slice Ao24 t200.length co24) : Value).ownBlock ∧ some k_ ≠ ((.slice Ao38 t211.length co38) : Value).ownBlock) (.slice Ao31 t206.length co31) t223) ∧ Aside0 (Kd.R k57 57 wc w.heap.size (fun k_ => some k_ ≠ ((.slice Ao24 t200.length co24) : Value).ownBlock ∧ some k_ ≠ ((.slice Ao31 t206.length co31) : Value).ownBlock) (.slice Ao38 t211.length co38) t211) ∧ Aside0 (wc.heap[gb193]? = some (.cells #[.int .i64 a0_0, (.slice A0_1 l0_1.length c0_1)] 24 (0, 0))) ∧ Aside0 (wc.heap[gb204]? = some (.cells #[.int .i64 t199, (.slice Ao24 t200.length co24)] 28 (0, 0))) ∧ Aside0 (wc.heap[gb209]? = some (.cells #[.int .i64 t205, (.slice Ao31 t206.length co31)] 28 (0, 0))) ∧ Aside0 (wc.heap[gb215]? = some (.cells #[.int .i64 t210, (.slice Ao38 t211.length co38)] 28 (0, 0))) ∧ Aside0 (Below w.heap.size w wc))
            case first =>
              have H := HC62.out
              clear HC62
              by_cases c72 : t222 < 0
              · rw [if_pos c72] at H
                have c72b0 : decide (t222 < 0) = true := decide_eq_true c72
                clear c72
                (first | rw [c72b0] | (simp only [i64_w, i32_w]; rw [c72b0]) | rw [c72b1] | simp only [c72b1] | skip)
                have H' := Aside0.mk H
                clear H
                go_wp2
                go_meet
                case rel => exact ⟨_, (true), (by first | rfl | (simp; done) | (simp [*]; done)), H', ⟨by have := HJ12.out; first | omega | exact Nat.le_refl _⟩, ⟨by (with_reducible repeat (first | apply Kd.R_alloc | apply Kd.R_drewN | apply Kd.R_drew)); exact Kd.R_mono HO_205001.out (fun _ hk => ⟨hk.1, hk.2.1⟩)⟩, ⟨by (with_reducible repeat (first | apply Kd.R_alloc | apply Kd.R_drewN | apply Kd.R_drew)); exact Kd.R_mono HO_210001.out (fun _ hk => ⟨hk.1.1, hk.1.2⟩)⟩, ⟨by (with_reducible repeat (first | apply Kd.R_alloc | apply Kd.R_drewN | apply Kd.R_drew)); exact Kd.R_mono HO_216001.out (fun _ hk => ⟨hk.1, hk.2.1⟩)⟩, ⟨by (with_reducible repeat (first | refine blk_drewN ?_ _ | refine blk_drew ?_ | refine blk_alloc ?_ _)); exact BK193.out⟩, ⟨by (with_reducible repeat (first | refine blk_drewN ?_ _ | refine blk_drew ?_ | refine blk_alloc ?_ _)); exact BK204.out⟩, ⟨by (with_reducible repeat (first | refine blk_drewN ?_ _ | refine blk_drew ?_ | refine blk_alloc ?_ _)); exact BK209.out⟩, ⟨by (with_reducible repeat (first | refine blk_drewN ?_ _ | refine blk_drew ?_ | refine blk_alloc ?_ _)); exact BK215.out⟩, ⟨by repeat (first | (with_reducible first | exact HB.out | apply below_alloc | apply pw_below_drewN | apply below_drew1 | refine below_set ?_ GE193.out | refine below_set ?_ GE204.out | refine below_set ?_ GE209.out | refine below_set ?_ GE215.out) | exact HB.out)⟩⟩
              · rw [if_neg c72] at H
                have c72b0 : decide (t222 < 0) = false := decide_eq_false c72
                clear c72
                (first | rw [c72b0] | (simp only [i64_w, i32_w]; rw [c72b0]) | rw [c72b1] | simp only [c72b1] | skip)
                replace H := Option.bind_eq_some_iff.mp H
                obtain ⟨t224, A730, H⟩ := H
                replace H : (if t224 = true then (laws_FnExactAddAnd.j1 kj12 a1 a2 t203 (t214 != t203) a0_0 l0_1 t199 t200 t210 t211) else (laws_FnExactAddAnd.j1 kj12 a1 a2 t203 true a0_0 l0_1 t199 t200 t210 t211)) = some r := H
                have A73 := Aside0.mk A730
                clear A730
                by_cases c74 : t224 = true
                · subst c74
                  have H1 : (laws_FnExactAddAnd.j1 kj12 a1 a2 t203 (t214 != t203) a0_0 l0_1 t199 t200 t210 t211) = some r := by rw [if_pos rfl] at H; exact H
                  clear H
                  have H := H1
                  clear H1
                  have H' := Aside0.mk H
                  clear H
                  have hnb75 := NB215_193.out
                  have hnc75 := NB193_215.out
                  have hnb76 := NB215_204.out
                  have hnc76 := NB204_215.out
                  have hnb77 := NB215_209.out
                  have hnc77 := NB209_215.out
                  have hcz78_0 : w71.cell? ⟨gb215, 0, none⟩ = some (.int .i64 t210) := (blk_cell BK215.out 0).trans rfl
                  have hcz78_1 : w71.cell? ⟨gb215, 1, none⟩ = some (.slice Ao38 t211.length co38) := (blk_cell BK215.out 1).trans rfl
                  have hfz78_0 := blk_frozen BK215.out 0
                  have hfz78_1 := blk_frozen BK215.out 1
                  have hnb79 := NB204_193.out
                  have hnc79 := NB193_204.out
                  have hnb80 := NB204_209.out
                  have hnc80 := NB209_204.out
                  have hcz81_0 : w71.cell? ⟨gb204, 0, none⟩ = some (.int .i64 t199) := (blk_cell BK204.out 0).trans rfl
                  have hcz81_1 : w71.cell? ⟨gb204, 1, none⟩ = some (.slice Ao24 t200.length co24) := (blk_cell BK204.out 1).trans rfl
                  have hfz81_0 := blk_frozen BK204.out 0
                  have hfz81_1 := blk_frozen BK204.out 1
                  go_wp2_with (first | (go_at_call 10; (with_reducible refine (laws_eqCircuit.calls kj12 t210 _ _ t211 t199 _ _ t200 true _ ?side1 ?side2 ?side3 ?side4 A73.out).mono ?_); (case side1 => repeat (first | exact (Kd.R_reads' HO_216001.out).2.2 | (with_reducible refine Kd.C_alloc ?_ _) | (with_reducible refine Kd.C_drewN ?_ _) | (with_reducible refine Kd.C_drew ?_))); (case side2 => exact (Kd.R_reads' HO_216001.out).2.1); (case side3 => repeat (first | exact (Kd.R_reads' HO_205001.out).2.2 | (with_reducible refine Kd.C_alloc ?_ _) | (with_reducible refine Kd.C_drewN ?_ _) | (with_reducible refine Kd.C_drew ?_))); (case side4 => exact (Kd.R_reads' HO_205001.out).2.1); rintro e w82 ⟨rfl, hb⟩; have n0_ := Aside0.mk (Kd.R_below (by (with_reducible repeat (first | apply Kd.R_alloc | apply Kd.R_drewN | apply Kd.R_drew)); exact HO_205001.out) hb); have n1_ := Aside0.mk (Kd.R_below (by (with_reducible repeat (first | apply Kd.R_alloc | apply Kd.R_drewN | apply Kd.R_drew)); exact HO_210001.out) hb); have n2_ := Aside0.mk (Kd.R_below (by (with_reducible repeat (first | apply Kd.R_alloc | apply Kd.R_drewN | apply Kd.R_drew)); exact HO_216001.out) hb); have n3_ := Aside0.mk (Kd.R_below (by (with_reducible repeat (first | apply Kd.R_alloc | apply Kd.R_drewN | apply Kd.R_drew)); exact HO220.out) hb); have n4_ := Aside0.mk (blk_below (g := gb193) (o := .cells #[.int .i64 a0_0, .slice A0_1 l0_1.length c0_1] 24 (0, 0)) (by (with_reducible repeat (first | refine blk_drewN ?_ _ | refine blk_drew ?_ | refine blk_alloc ?_ _)); exact BK193.out) hb); have n5_ := Aside0.mk (blk_below (g := gb204) (o := .cells #[.int .i64 t199, .slice Ao24 t200.length co24] 28 (0, 0)) (by (with_reducible repeat (first | refine blk_drewN ?_ _ | refine blk_drew ?_ | refine blk_alloc ?_ _)); exact BK204.out) hb); have n6_ := Aside0.mk (blk_below (g := gb209) (o := .cells #[.int .i64 t205, .slice Ao31 t206.length co31] 28 (0, 0)) (by (with_reducible repeat (first | refine blk_drewN ?_ _ | refine blk_drew ?_ | refine blk_alloc ?_ _)); exact BK209.out) hb); have n7_ := Aside0.mk (blk_below (g := gb215) (o := .cells #[.int .i64 t210, .slice Ao38 t211.length co38] 28 (0, 0)) (by (with_reducible repeat (first | refine blk_drewN ?_ _ | refine blk_drew ?_ | refine blk_alloc ?_ _)); exact BK215.out) hb); have n8_ := Aside0.mk (below_step (by repeat (first | (with_reducible first | exact HB.out | apply below_alloc | apply pw_below_drewN | apply below_drew1 | refine below_set ?_ GE193.out | refine below_set ?_ GE204.out | refine below_set ?_ GE209.out | refine below_set ?_ GE215.out) | exact HB.out)) hb); clear HO_205001; clear HO_210001; clear HO_216001; clear HO220; clear BK193; clear BK204; clear BK209; clear BK215; clear HB; have HO_205001 := n0_; have HO_210001 := n1_; have HO_216001 := n2_; have HO220 := n3_; have BK193 := n4_; have BK204 := n5_; have BK209 := n6_; have BK215 := n7_; have HB := n8_; clear n0_ n1_ n2_ n3_ n4_ n5_ n6_ n7_ n8_; (try clear hb); (try clear hb2); (try clear hk); (try clear hi)))
                  go_meet
                  case rel => exact ⟨_, ((t214 != t203)), (by first | rfl | (simp; done) | (simp [*]; done)), H', ⟨by have := HJ12.out; first | omega | exact Nat.le_refl _⟩, ⟨by (with_reducible repeat (first | apply Kd.R_alloc | apply Kd.R_drewN | apply Kd.R_drew)); exact Kd.R_mono HO_205001.out (fun _ hk => ⟨hk.1, hk.2.1⟩)⟩, ⟨by (with_reducible repeat (first | apply Kd.R_alloc | apply Kd.R_drewN | apply Kd.R_drew)); exact Kd.R_mono HO_210001.out (fun _ hk => ⟨hk.1.1, hk.1.2⟩)⟩, ⟨by (with_reducible repeat (first | apply Kd.R_alloc | apply Kd.R_drewN | apply Kd.R_drew)); exact Kd.R_mono HO_216001.out (fun _ hk => ⟨hk.1, hk.2.1⟩)⟩, ⟨by (with_reducible repeat (first | refine blk_drewN ?_ _ | refine blk_drew ?_ | refine blk_alloc ?_ _)); exact BK193.out⟩, ⟨by (with_reducible repeat (first | refine blk_drewN ?_ _ | refine blk_drew ?_ | refine blk_alloc ?_ _)); exact BK204.out⟩, ⟨by (with_reducible repeat (first | refine blk_drewN ?_ _ | refine blk_drew ?_ | refine blk_alloc ?_ _)); exact BK209.out⟩, ⟨by (with_reducible repeat (first | refine blk_drewN ?_ _ | refine blk_drew ?_ | refine blk_alloc ?_ _)); exact BK215.out⟩, ⟨by repeat (first | (with_reducible first | exact HB.out | apply below_alloc | apply pw_below_drewN | apply below_drew1 | refine below_set ?_ GE193.out | refine below_set ?_ GE204.out | refine below_set ?_ GE209.out | refine below_set ?_ GE215.out) | exact HB.out)⟩⟩
                · replace c74 := Bool.eq_false_iff.mpr c74
                  subst c74
                  have H1 : (laws_FnExactAddAnd.j1 kj12 a1 a2 t203 true a0_0 l0_1 t199 t200 t210 t211) = some r := by rw [if_neg (show ¬ (false = true) by decide)] at H; exact H
                  clear H
                  have H := H1
                  clear H1
                  have H' := Aside0.mk H
                  clear H
                  have hnb83 := NB215_193.out
                  have hnc83 := NB193_215.out
                  have hnb84 := NB215_204.out
                  have hnc84 := NB204_215.out
                  have hnb85 := NB215_209.out
                  have hnc85 := NB209_215.out
                  have hcz86_0 : w71.cell? ⟨gb215, 0, none⟩ = some (.int .i64 t210) := (blk_cell BK215.out 0).trans rfl
                  have hcz86_1 : w71.cell? ⟨gb215, 1, none⟩ = some (.slice Ao38 t211.length co38) := (blk_cell BK215.out 1).trans rfl
                  have hfz86_0 := blk_frozen BK215.out 0
                  have hfz86_1 := blk_frozen BK215.out 1
                  have hnb87 := NB204_193.out
                  have hnc87 := NB193_204.out
                  have hnb88 := NB204_209.out
                  have hnc88 := NB209_204.out
                  have hcz89_0 : w71.cell? ⟨gb204, 0, none⟩ = some (.int .i64 t199) := (blk_cell BK204.out 0).trans rfl
                  have hcz89_1 : w71.cell? ⟨gb204, 1, none⟩ = some (.slice Ao24 t200.length co24) := (blk_cell BK204.out 1).trans rfl
                  have hfz89_0 := blk_frozen BK204.out 0
                  have hfz89_1 := blk_frozen BK204.out 1
                  go_wp2_with (first | (go_at_call 10; (with_reducible refine (laws_eqCircuit.calls kj12 t210 _ _ t211 t199 _ _ t200 false _ ?side1 ?side2 ?side3 ?side4 A73.out).mono ?_); (case side1 => repeat (first | exact (Kd.R_reads' HO_216001.out).2.2 | (with_reducible refine Kd.C_alloc ?_ _) | (with_reducible refine Kd.C_drewN ?_ _) | (with_reducible refine Kd.C_drew ?_))); (case side2 => exact (Kd.R_reads' HO_216001.out).2.1); (case side3 => repeat (first | exact (Kd.R_reads' HO_205001.out).2.2 | (with_reducible refine Kd.C_alloc ?_ _) | (with_reducible refine Kd.C_drewN ?_ _) | (with_reducible refine Kd.C_drew ?_))); (case side4 => exact (Kd.R_reads' HO_205001.out).2.1); rintro e w90 ⟨rfl, hb⟩; have n0_ := Aside0.mk (Kd.R_below (by (with_reducible repeat (first | apply Kd.R_alloc | apply Kd.R_drewN | apply Kd.R_drew)); exact HO_205001.out) hb); have n1_ := Aside0.mk (Kd.R_below (by (with_reducible repeat (first | apply Kd.R_alloc | apply Kd.R_drewN | apply Kd.R_drew)); exact HO_210001.out) hb); have n2_ := Aside0.mk (Kd.R_below (by (with_reducible repeat (first | apply Kd.R_alloc | apply Kd.R_drewN | apply Kd.R_drew)); exact HO_216001.out) hb); have n3_ := Aside0.mk (Kd.R_below (by (with_reducible repeat (first | apply Kd.R_alloc | apply Kd.R_drewN | apply Kd.R_drew)); exact HO220.out) hb); have n4_ := Aside0.mk (blk_below (g := gb193) (o := .cells #[.int .i64 a0_0, .slice A0_1 l0_1.length c0_1] 24 (0, 0)) (by (with_reducible repeat (first | refine blk_drewN ?_ _ | refine blk_drew ?_ | refine blk_alloc ?_ _)); exact BK193.out) hb); have n5_ := Aside0.mk (blk_below (g := gb204) (o := .cells #[.int .i64 t199, .slice Ao24 t200.length co24] 28 (0, 0)) (by (with_reducible repeat (first | refine blk_drewN ?_ _ | refine blk_drew ?_ | refine blk_alloc ?_ _)); exact BK204.out) hb); have n6_ := Aside0.mk (blk_below (g := gb209) (o := .cells #[.int .i64 t205, .slice Ao31 t206.length co31] 28 (0, 0)) (by (with_reducible repeat (first | refine blk_drewN ?_ _ | refine blk_drew ?_ | refine blk_alloc ?_ _)); exact BK209.out) hb); have n7_ := Aside0.mk (blk_below (g := gb215) (o := .cells #[.int .i64 t210, .slice Ao38 t211.length co38] 28 (0, 0)) (by (with_reducible repeat (first | refine blk_drewN ?_ _ | refine blk_drew ?_ | refine blk_alloc ?_ _)); exact BK215.out) hb); have n8_ := Aside0.mk (below_step (by repeat (first | (with_reducible first | exact HB.out | apply below_alloc | apply pw_below_drewN | apply below_drew1 | refine below_set ?_ GE193.out | refine below_set ?_ GE204.out | refine below_set ?_ GE209.out | refine below_set ?_ GE215.out) | exact HB.out)) hb); clear HO_205001; clear HO_210001; clear HO_216001; clear HO220; clear BK193; clear BK204; clear BK209; clear BK215; clear HB; have HO_205001 := n0_; have HO_210001 := n1_; have HO_216001 := n2_; have HO220 := n3_; have BK193 := n4_; have BK204 := n5_; have BK209 := n6_; have BK215 := n7_; have HB := n8_; clear n0_ n1_ n2_ n3_ n4_ n5_ n6_ n7_ n8_; (try clear hb); (try clear hb2); (try clear hk); (try clear hi)))
                  go_meet
                  case rel => exact ⟨_, (true), (by first | rfl | (simp; done) | (simp [*]; done)), H', ⟨by have := HJ12.out; first | omega | exact Nat.le_refl _⟩, ⟨by (with_reducible repeat (first | apply Kd.R_alloc | apply Kd.R_drewN | apply Kd.R_drew)); exact Kd.R_mono HO_205001.out (fun _ hk => ⟨hk.1, hk.2.1⟩)⟩, ⟨by (with_reducible repeat (first | apply Kd.R_alloc | apply Kd.R_drewN | apply Kd.R_drew)); exact Kd.R_mono HO_210001.out (fun _ hk => ⟨hk.1.1, hk.1.2⟩)⟩, ⟨by (with_reducible repeat (first | apply Kd.R_alloc | apply Kd.R_drewN | apply Kd.R_drew)); exact Kd.R_mono HO_216001.out (fun _ hk => ⟨hk.1, hk.2.1⟩)⟩, ⟨by (with_reducible repeat (first | refine blk_drewN ?_ _ | refine blk_drew ?_ | refine blk_alloc ?_ _)); exact BK193.out⟩, ⟨by (with_reducible repeat (first | refine blk_drewN ?_ _ | refine blk_drew ?_ | refine blk_alloc ?_ _)); exact BK204.out⟩, ⟨by (with_reducible repeat (first | refine blk_drewN ?_ _ | refine blk_drew ?_ | refine blk_alloc ?_ _)); exact BK209.out⟩, ⟨by (with_reducible repeat (first | refine blk_drewN ?_ _ | refine blk_drew ?_ | refine blk_alloc ?_ _)); exact BK215.out⟩, ⟨by repeat (first | (with_reducible first | exact HB.out | apply below_alloc | apply pw_below_drewN | apply below_drew1 | refine below_set ?_ GE193.out | refine below_set ?_ GE204.out | refine below_set ?_ GE209.out | refine below_set ?_ GE215.out) | exact HB.out)⟩⟩
            case rest =>
              clear HC62
              try clear c1
              try clear c2
              try clear p2
              try clear c3
              try clear c4
              try clear c5
              try clear c5b0
              try clear c6
              try clear c7
              try clear c8
              try clear c9
              try clear c10
              try clear c11
              try clear c22
              try clear c28
              try clear c29
              try clear c34
              try clear c35
              try clear c36
              try clear c40
              try clear c41
              try clear c42
              try clear c43
              try clear c45
              try clear c46
              try clear c49
              try clear c50
              try clear c51
              try clear c53
              try clear c54
              try clear c57
              try clear c60
              try clear c67
              try clear c68
              try clear c69
              try clear c72
              try clear c72b0
              try clear c72b1
              try clear c74
              try clear c75
              try clear c76
              try clear c77
              try clear c79
              try clear c80
              try clear c83
              try clear c84
              try clear c85
              try clear c87
              try clear c88
              try clear hcz15_0
              try clear hcz15_1
              try clear hcz17_0
              try clear hcz17_1
              try clear hcz23_0
              try clear hcz23_1
              try clear hcz25_0
              try clear hcz25_1
              try clear hcz30_0
              try clear hcz30_1
              try clear hcz37_0
              try clear hcz37_1
              try clear hcz44_0
              try clear hcz44_1
              try clear hcz47_0
              try clear hcz47_1
              try clear hcz52_0
              try clear hcz52_1
              try clear hcz55_0
              try clear hcz55_1
              try clear hcz70_0
              try clear hcz70_1
              try clear hcz78_0
              try clear hcz78_1
              try clear hcz7_0
              try clear hcz7_1
              try clear hcz81_0
              try clear hcz81_1
              try clear hcz86_0
              try clear hcz86_1
              try clear hcz89_0
              try clear hcz89_1
              try clear hfz15_0
              try clear hfz15_1
              try clear hfz17_0
              try clear hfz17_1
              try clear hfz23_0
              try clear hfz23_1
              try clear hfz25_0
              try clear hfz25_1
              try clear hfz30_0
              try clear hfz30_1
              try clear hfz37_0
              try clear hfz37_1
              try clear hfz44_0
              try clear hfz44_1
              try clear hfz47_0
              try clear hfz47_1
              try clear hfz52_0
              try clear hfz52_1
              try clear hfz55_0
              try clear hfz55_1
              try clear hfz70_0
              try clear hfz70_1
              try clear hfz78_0
              try clear hfz78_1
              try clear hfz7_0
              try clear hfz7_1
              try clear hfz81_0
              try clear hfz81_1
              try clear hfz86_0
              try clear hfz86_1
              try clear hfz89_0
              try clear hfz89_1
              try clear p2
              obtain ⟨kq, x69_61, rfl, HA, HJ61, HO_205001, HO_210001, HO_216001, BK193, BK204, BK209, BK215, HB⟩ := hcut
              have hl210001_61 := (Kd.R_reads' HO_210001.out).1
              rw [hl210001_61] at HO_210001
              (try simp only [hl210001_61])
              (try simp only [hl210001_61] at BK193)
              (try simp only [hl210001_61] at BK204)
              (try simp only [hl210001_61] at BK209)
              (try simp only [hl210001_61] at BK215)
              (try simp only [hl210001_61] at HO_205001)
              (try simp only [hl210001_61] at HO_216001)
              cases kq with
              | zero => exact absurd HA.out (by simp [laws_FnExactAddAnd.j1])
              | succ kj61 =>
                have H := HA.out
                clear HA
                simp only [laws_FnExactAddAnd.j1] at H
                by_cases c91 : x69_61 = true
                · subst c91
                  have H1 : (some false) = some r := by rw [if_pos rfl] at H; exact H
                  clear H
                  have H := H1
                  clear H1
                  obtain rfl := Option.some.inj H
                  go_wp2
                  go_ret
                  exact ⟨by first | rfl | (simp [errW_none, errW_some] <;> rfl) | (simp [*, errW_none, errW_some] <;> rfl), by repeat (first | (with_reducible first | exact HB.out | apply below_alloc | apply pw_below_drewN | apply below_drew1 | refine below_set ?_ GE193.out | refine below_set ?_ GE204.out | refine below_set ?_ GE209.out | refine below_set ?_ GE215.out) | exact HB.out)⟩
                · replace c91 := Bool.eq_false_iff.mpr c91
                  subst c91
                  have H1 : ((laws_markCircuit.f kj61 t210 t211 1).bind fun bt225 => ((laws_heldCircuit.f kj61 t210 bt225.2 1).bind fun t227 => (if t227 < 0 then (some false) else (if t227 = bt225.1 then ((laws_toCircuit.f kj61 a0_0 l0_1).bind fun bt228 => ((impl_AddAnd.f kj61 bt228.1 bt228.2 a1 a2).bind fun bt232 => ((laws_eqCircuit.f kj61 bt232.1 bt232.2.1 t199 t200).bind fun t238 => (if t238 = true then (laws_FnExactAddAnd.j2 kj61 bt225.1 (bt232.2.2 != t203) t210 bt225.2) else (laws_FnExactAddAnd.j2 kj61 bt225.1 true t210 bt225.2))))) else (some false))))) = some r := by rw [if_neg (show ¬ (false = true) by decide)] at H; exact H
                  clear H
                  have H := H1
                  clear H1
                  replace H := Option.bind_eq_some_iff.mp H
                  obtain ⟨⟨t225, t226⟩, A920, H⟩ := H
                  replace H : ((laws_heldCircuit.f kj61 t210 t226 1).bind fun t227 => (if t227 < 0 then (some false) else (if t227 = t225 then ((laws_toCircuit.f kj61 a0_0 l0_1).bind fun bt228 => ((impl_AddAnd.f kj61 bt228.1 bt228.2 a1 a2).bind fun bt232 => ((laws_eqCircuit.f kj61 bt232.1 bt232.2.1 t199 t200).bind fun t238 => (if t238 = true then (laws_FnExactAddAnd.j2 kj61 t225 (bt232.2.2 != t203) t210 t226) else (laws_FnExactAddAnd.j2 kj61 t225 true t210 t226))))) else (some false)))) = some r := H
                  have A92 := Aside0.mk A920
                  clear A920
                  replace H := Option.bind_eq_some_iff.mp H
                  obtain ⟨t227, A930, H⟩ := H
                  replace H : (if t227 < 0 then (some false) else (if t227 = t225 then ((laws_toCircuit.f kj61 a0_0 l0_1).bind fun bt228 => ((impl_AddAnd.f kj61 bt228.1 bt228.2 a1 a2).bind fun bt232 => ((laws_eqCircuit.f kj61 bt232.1 bt232.2.1 t199 t200).bind fun t238 => (if t238 = true then (laws_FnExactAddAnd.j2 kj61 t225 (bt232.2.2 != t203) t210 t226) else (laws_FnExactAddAnd.j2 kj61 t225 true t210 t226))))) else (some false))) = some r := H
                  have A93 := Aside0.mk A930
                  clear A930
                  by_cases c94 : t227 < 0
                  · rw [if_pos c94] at H
                    have c94b0 : decide (t227 < 0) = true := decide_eq_true c94
                    (try (have c94b0z := c94b0; simp only [hl210001_61] at c94b0z))
                    clear c94
                    obtain rfl := Option.some.inj H
                    have hnb95 := NB215_193.out
                    have hnc95 := NB193_215.out
                    have hnb96 := NB215_204.out
                    have hnc96 := NB204_215.out
                    have hnb97 := NB215_209.out
                    have hnc97 := NB209_215.out
                    have hcz98_0 : wc.cell? ⟨gb215, 0, none⟩ = some (.int .i64 t210) := (blk_cell BK215.out 0).trans rfl
                    have hcz98_1 : wc.cell? ⟨gb215, 1, none⟩ = some (.slice Ao38 t211.length co38) := (blk_cell BK215.out 1).trans rfl
                    have hfz98_0 := blk_frozen BK215.out 0
                    have hfz98_1 := blk_frozen BK215.out 1
                    go_wp2_with (first | ((with_reducible refine gate_callee (f := 11) rfl ?_); refine goesL_ (some 72) rfl rfl Try.func11 (by kernel_rfl) rfl #[.agg #[.int .i64 t210, .slice Ao38 t211.length co38], .int .i64 1] rfl (by (try simp only [List.map_toArray, List.map_cons, List.map_nil]); first | done | rfl | (simp only [List.length_drop, List.length_take]; rfl)) ?_; (with_reducible refine (laws_markCircuit.calls kj61 t210 (fun k_ => some k_ = (.slice Ao38 t211.length co38 : Value).ownBlock) (.slice Ao38 t211.length co38) t211 1 t225 t226 w _ ?side1 ?side2 A92.out).mono ?_); (case side1 => repeat (first | (with_reducible first | exact HB.out | apply below_alloc | apply pw_below_drewN | apply below_drew1 | refine below_set ?_ GE193.out | refine below_set ?_ GE204.out | refine below_set ?_ GE209.out | refine below_set ?_ GE215.out) | exact HB.out)); (case side2 => exact Kd.R_tight rfl HO_216001.out); rintro e w99 ⟨rfl, hy0, hb, hkp⟩; refine ⟨_, rfl, ?_⟩; have n0_ := Aside0.mk (Kd.R_mono (ok' := fun k_ => some k_ ≠ (.slice Ao31 t223.length co31 : Value).ownBlock ∧ some k_ ≠ (.slice Ao38 t211.length co38 : Value).ownBlock) (Kd.R_keptB (HO_205001.out) hkp (fun k_ hk_ hs_ => (hk_.2) hs_)) (fun k_ hk_ => ⟨hk_.1.1, hk_.1.2⟩)); have n1_ := Aside0.mk (Kd.R_mono (ok' := fun k_ => some k_ ≠ (.slice Ao24 t200.length co24 : Value).ownBlock ∧ some k_ ≠ (.slice Ao38 t211.length co38 : Value).ownBlock) (Kd.R_keptB (HO_210001.out) hkp (fun k_ hk_ hs_ => (hk_.2) hs_)) (fun k_ hk_ => ⟨hk_.1.1, hk_.1.2⟩)); have n2_ := Aside0.mk (Kd.R_reok rfl hy0 (fun k_ e_ => HO_216001.out.1 k_ e_)); have n3_ := Aside0.mk (blk_kept (by (with_reducible repeat (first | refine blk_drewN ?_ _ | refine blk_drew ?_ | refine blk_alloc ?_ _)); exact BK193.out) hkp (fun hs_ => (fun e_ => (Kd.R_ne HO_216001.out BK193.out (by decide)) e_) hs_)); have n4_ := Aside0.mk (blk_kept (by (with_reducible repeat (first | refine blk_drewN ?_ _ | refine blk_drew ?_ | refine blk_alloc ?_ _)); exact BK204.out) hkp (fun hs_ => (fun e_ => (Kd.R_ne HO_216001.out BK204.out (by decide)) e_) hs_)); have n5_ := Aside0.mk (blk_kept (by (with_reducible repeat (first | refine blk_drewN ?_ _ | refine blk_drew ?_ | refine blk_alloc ?_ _)); exact BK209.out) hkp (fun hs_ => (fun e_ => (Kd.R_ne HO_216001.out BK209.out (by decide)) e_) hs_)); have n6_ := Aside0.mk (blk_kept (by (with_reducible repeat (first | refine blk_drewN ?_ _ | refine blk_drew ?_ | refine blk_alloc ?_ _)); exact BK215.out) hkp (fun hs_ => (fun e_ => (Kd.R_ne HO_216001.out BK215.out (by decide)) e_) hs_)); have n7_ := Aside0.mk (hb); clear HO_205001; clear HO_210001; clear HO_216001; clear BK193; clear BK204; clear BK209; clear BK215; clear HB; have HO_205001 := n0_; have HO_210001 := n1_; have HO_216001 := n2_; have BK193 := n3_; have BK204 := n4_; have BK209 := n5_; have BK215 := n6_; have HB := n7_; clear n0_ n1_ n2_ n3_ n4_ n5_ n6_ n7_; (try clear hb); (try clear hkp); (try clear hy0); have hcz100_0 : w99.cell? ⟨gb215, 0, none⟩ = some (.int .i64 t210) := (blk_cell BK215.out 0).trans rfl; have hcz100_1 : w99.cell? ⟨gb215, 1, none⟩ = some (.slice Ao38 t211.length co38) := (blk_cell BK215.out 1).trans rfl; have hfz100_0 := blk_frozen BK215.out 0; have hfz100_1 := blk_frozen BK215.out 1) | ((with_reducible refine gate_callee (f := 12) rfl ?_); refine goesL_ (some 75) rfl rfl Try.func12 (by kernel_rfl) rfl #[.agg #[.int .i64 t210, .slice Ao38 t226.length co38], .int .i64 1] rfl (by (try simp only [List.map_toArray, List.map_cons, List.map_nil]); first | done | (rw [show t226.length = t211.length from (Kd.R_reads' HO_216001.out).1.symm] <;> rfl) | rfl | (simp only [List.length_drop, List.length_take]; rfl)) ?_; (with_reducible refine (laws_heldCircuit.calls kj61 t210 _ _ t226 1 t227 _ ?side1 ?side2 A93.out).mono ?_); (case side1 => repeat (first | exact (Kd.R_reads' HO_216001.out).2.2 | (with_reducible refine Kd.C_alloc ?_ _) | (with_reducible refine Kd.C_drewN ?_ _) | (with_reducible refine Kd.C_drew ?_))); (case side2 => rw [show t226.length = t211.length from (Kd.R_reads' HO_216001.out).1.symm]; exact (Kd.R_reads' HO_216001.out).2.1); rintro e w101 ⟨rfl, hb⟩; refine ⟨_, rfl, ?_⟩; have n0_ := Aside0.mk (Kd.R_below (by (with_reducible repeat (first | apply Kd.R_alloc | apply Kd.R_drewN | apply Kd.R_drew)); exact HO_205001.out) hb); have n1_ := Aside0.mk (Kd.R_below (by (with_reducible repeat (first | apply Kd.R_alloc | apply Kd.R_drewN | apply Kd.R_drew)); exact HO_210001.out) hb); have n2_ := Aside0.mk (Kd.R_below (by (with_reducible repeat (first | apply Kd.R_alloc | apply Kd.R_drewN | apply Kd.R_drew)); exact HO_216001.out) hb); have n3_ := Aside0.mk (blk_below (g := gb193) (o := .cells #[.int .i64 a0_0, .slice A0_1 l0_1.length c0_1] 24 (0, 0)) (by (with_reducible repeat (first | refine blk_drewN ?_ _ | refine blk_drew ?_ | refine blk_alloc ?_ _)); exact BK193.out) hb); have n4_ := Aside0.mk (blk_below (g := gb204) (o := .cells #[.int .i64 t199, .slice Ao24 t200.length co24] 28 (0, 0)) (by (with_reducible repeat (first | refine blk_drewN ?_ _ | refine blk_drew ?_ | refine blk_alloc ?_ _)); exact BK204.out) hb); have n5_ := Aside0.mk (blk_below (g := gb209) (o := .cells #[.int .i64 t205, .slice Ao31 t223.length co31] 28 (0, 0)) (by (with_reducible repeat (first | refine blk_drewN ?_ _ | refine blk_drew ?_ | refine blk_alloc ?_ _)); exact BK209.out) hb); have n6_ := Aside0.mk (blk_below (g := gb215) (o := .cells #[.int .i64 t210, .slice Ao38 t211.length co38] 28 (0, 0)) (by (with_reducible repeat (first | refine blk_drewN ?_ _ | refine blk_drew ?_ | refine blk_alloc ?_ _)); exact BK215.out) hb); have n7_ := Aside0.mk (below_step (by repeat (first | (with_reducible first | exact HB.out | apply below_alloc | apply pw_below_drewN | apply below_drew1 | refine below_set ?_ GE193.out | refine below_set ?_ GE204.out | refine below_set ?_ GE209.out | refine below_set ?_ GE215.out) | exact HB.out)) hb); clear HO_205001; clear HO_210001; clear HO_216001; clear BK193; clear BK204; clear BK209; clear BK215; clear HB; have HO_205001 := n0_; have HO_210001 := n1_; have HO_216001 := n2_; have BK193 := n3_; have BK204 := n4_; have BK209 := n5_; have BK215 := n6_; have HB := n7_; clear n0_ n1_ n2_ n3_ n4_ n5_ n6_ n7_; (try clear hb); (try clear hb2); (try clear hk); (try clear hi)))
                    go_ret
                    exact ⟨by first | rfl | (simp [errW_none, errW_some] <;> rfl) | (simp [*, errW_none, errW_some] <;> rfl), by repeat (first | (with_reducible first | exact HB.out | apply below_alloc | apply pw_below_drewN | apply below_drew1 | refine below_set ?_ GE193.out | refine below_set ?_ GE204.out | refine below_set ?_ GE209.out | refine below_set ?_ GE215.out) | exact HB.out)⟩
                  · rw [if_neg c94] at H
                    have c94b0 : decide (t227 < 0) = false := decide_eq_false c94
                    (try (have c94b0z := c94b0; simp only [hl210001_61] at c94b0z))
                    clear c94
                    by_cases c102 : t227 = t225
                    · rw [if_pos c102] at H
                      have c102b0 : (t227 == t225) = true := beq_iff_eq.mpr c102
                      have c102b1 : (t227 != t225) = false := bne_eq_false_iff_eq.mpr c102
                      (try (have c102b0z := c102b0; simp only [hl210001_61] at c102b0z))
                      clear c102
                      replace H := Option.bind_eq_some_iff.mp H
                      obtain ⟨⟨t228, t229⟩, A1030, H⟩ := H
                      replace H : ((impl_AddAnd.f kj61 t228 t229 a1 a2).bind fun bt232 => ((laws_eqCircuit.f kj61 bt232.1 bt232.2.1 t199 t200).bind fun t238 => (if t238 = true then (laws_FnExactAddAnd.j2 kj61 t225 (bt232.2.2 != t203) t210 t226) else (laws_FnExactAddAnd.j2 kj61 t225 true t210 t226)))) = some r := H
                      have A103 := Aside0.mk A1030
                      clear A1030
                      replace H := Option.bind_eq_some_iff.mp H
                      obtain ⟨⟨t232, t233, t236⟩, A1040, H⟩ := H
                      replace H : ((laws_eqCircuit.f kj61 t232 t233 t199 t200).bind fun t238 => (if t238 = true then (laws_FnExactAddAnd.j2 kj61 t225 (t236 != t203) t210 t226) else (laws_FnExactAddAnd.j2 kj61 t225 true t210 t226))) = some r := H
                      have A104 := Aside0.mk A1040
                      clear A1040
                      have HC105 := Aside0.mk H
                      clear H
                      have hnb106 := NB215_193.out
                      have hnc106 := NB193_215.out
                      have hnb107 := NB215_204.out
                      have hnc107 := NB204_215.out
                      have hnb108 := NB215_209.out
                      have hnc108 := NB209_215.out
                      have hcz109_0 : wc.cell? ⟨gb215, 0, none⟩ = some (.int .i64 t210) := (blk_cell BK215.out 0).trans rfl
                      have hcz109_1 : wc.cell? ⟨gb215, 1, none⟩ = some (.slice Ao38 t211.length co38) := (blk_cell BK215.out 1).trans rfl
                      have hfz109_0 := blk_frozen BK215.out 0
                      have hfz109_1 := blk_frozen BK215.out 1
                      go_upto_region 25 with (first | ((with_reducible refine gate_callee (f := 11) rfl ?_); refine goesL_ (some 72) rfl rfl Try.func11 (by kernel_rfl) rfl #[.agg #[.int .i64 t210, .slice Ao38 t211.length co38], .int .i64 1] rfl (by (try simp only [List.map_toArray, List.map_cons, List.map_nil]); first | done | rfl | (simp only [List.length_drop, List.length_take]; rfl)) ?_; (with_reducible refine (laws_markCircuit.calls kj61 t210 (fun k_ => some k_ = (.slice Ao38 t211.length co38 : Value).ownBlock) (.slice Ao38 t211.length co38) t211 1 t225 t226 w _ ?side1 ?side2 A92.out).mono ?_); (case side1 => repeat (first | (with_reducible first | exact HB.out | apply below_alloc | apply pw_below_drewN | apply below_drew1 | refine below_set ?_ GE193.out | refine below_set ?_ GE204.out | refine below_set ?_ GE209.out | refine below_set ?_ GE215.out) | exact HB.out)); (case side2 => exact Kd.R_tight rfl HO_216001.out); rintro e w110 ⟨rfl, hy0, hb, hkp⟩; refine ⟨_, rfl, ?_⟩; have n0_ := Aside0.mk (Kd.R_mono (ok' := fun k_ => some k_ ≠ (.slice Ao31 t223.length co31 : Value).ownBlock ∧ some k_ ≠ (.slice Ao38 t211.length co38 : Value).ownBlock) (Kd.R_keptB (HO_205001.out) hkp (fun k_ hk_ hs_ => (hk_.2) hs_)) (fun k_ hk_ => ⟨hk_.1.1, hk_.1.2⟩)); have n1_ := Aside0.mk (Kd.R_mono (ok' := fun k_ => some k_ ≠ (.slice Ao24 t200.length co24 : Value).ownBlock ∧ some k_ ≠ (.slice Ao38 t211.length co38 : Value).ownBlock) (Kd.R_keptB (HO_210001.out) hkp (fun k_ hk_ hs_ => (hk_.2) hs_)) (fun k_ hk_ => ⟨hk_.1.1, hk_.1.2⟩)); have n2_ := Aside0.mk (Kd.R_reok rfl hy0 (fun k_ e_ => HO_216001.out.1 k_ e_)); have n3_ := Aside0.mk (blk_kept (by (with_reducible repeat (first | refine blk_drewN ?_ _ | refine blk_drew ?_ | refine blk_alloc ?_ _)); exact BK193.out) hkp (fun hs_ => (fun e_ => (Kd.R_ne HO_216001.out BK193.out (by decide)) e_) hs_)); have n4_ := Aside0.mk (blk_kept (by (with_reducible repeat (first | refine blk_drewN ?_ _ | refine blk_drew ?_ | refine blk_alloc ?_ _)); exact BK204.out) hkp (fun hs_ => (fun e_ => (Kd.R_ne HO_216001.out BK204.out (by decide)) e_) hs_)); have n5_ := Aside0.mk (blk_kept (by (with_reducible repeat (first | refine blk_drewN ?_ _ | refine blk_drew ?_ | refine blk_alloc ?_ _)); exact BK209.out) hkp (fun hs_ => (fun e_ => (Kd.R_ne HO_216001.out BK209.out (by decide)) e_) hs_)); have n6_ := Aside0.mk (blk_kept (by (with_reducible repeat (first | refine blk_drewN ?_ _ | refine blk_drew ?_ | refine blk_alloc ?_ _)); exact BK215.out) hkp (fun hs_ => (fun e_ => (Kd.R_ne HO_216001.out BK215.out (by decide)) e_) hs_)); have n7_ := Aside0.mk (hb); clear HO_205001; clear HO_210001; clear HO_216001; clear BK193; clear BK204; clear BK209; clear BK215; clear HB; have HO_205001 := n0_; have HO_210001 := n1_; have HO_216001 := n2_; have BK193 := n3_; have BK204 := n4_; have BK209 := n5_; have BK215 := n6_; have HB := n7_; clear n0_ n1_ n2_ n3_ n4_ n5_ n6_ n7_; (try clear hb); (try clear hkp); (try clear hy0); have hcz111_0 : w110.cell? ⟨gb215, 0, none⟩ = some (.int .i64 t210) := (blk_cell BK215.out 0).trans rfl; have hcz111_1 : w110.cell? ⟨gb215, 1, none⟩ = some (.slice Ao38 t211.length co38) := (blk_cell BK215.out 1).trans rfl; have hfz111_0 := blk_frozen BK215.out 0; have hfz111_1 := blk_frozen BK215.out 1) | ((with_reducible refine gate_callee (f := 12) rfl ?_); refine goesL_ (some 75) rfl rfl Try.func12 (by kernel_rfl) rfl #[.agg #[.int .i64 t210, .slice Ao38 t226.length co38], .int .i64 1] rfl (by (try simp only [List.map_toArray, List.map_cons, List.map_nil]); first | done | (rw [show t226.length = t211.length from (Kd.R_reads' HO_216001.out).1.symm] <;> rfl) | rfl | (simp only [List.length_drop, List.length_take]; rfl)) ?_; (with_reducible refine (laws_heldCircuit.calls kj61 t210 _ _ t226 1 t227 _ ?side1 ?side2 A93.out).mono ?_); (case side1 => repeat (first | exact (Kd.R_reads' HO_216001.out).2.2 | (with_reducible refine Kd.C_alloc ?_ _) | (with_reducible refine Kd.C_drewN ?_ _) | (with_reducible refine Kd.C_drew ?_))); (case side2 => rw [show t226.length = t211.length from (Kd.R_reads' HO_216001.out).1.symm]; exact (Kd.R_reads' HO_216001.out).2.1); rintro e w112 ⟨rfl, hb⟩; refine ⟨_, rfl, ?_⟩; have n0_ := Aside0.mk (Kd.R_below (by (with_reducible repeat (first | apply Kd.R_alloc | apply Kd.R_drewN | apply Kd.R_drew)); exact HO_205001.out) hb); have n1_ := Aside0.mk (Kd.R_below (by (with_reducible repeat (first | apply Kd.R_alloc | apply Kd.R_drewN | apply Kd.R_drew)); exact HO_210001.out) hb); have n2_ := Aside0.mk (Kd.R_below (by (with_reducible repeat (first | apply Kd.R_alloc | apply Kd.R_drewN | apply Kd.R_drew)); exact HO_216001.out) hb); have n3_ := Aside0.mk (blk_below (g := gb193) (o := .cells #[.int .i64 a0_0, .slice A0_1 l0_1.length c0_1] 24 (0, 0)) (by (with_reducible repeat (first | refine blk_drewN ?_ _ | refine blk_drew ?_ | refine blk_alloc ?_ _)); exact BK193.out) hb); have n4_ := Aside0.mk (blk_below (g := gb204) (o := .cells #[.int .i64 t199, .slice Ao24 t200.length co24] 28 (0, 0)) (by (with_reducible repeat (first | refine blk_drewN ?_ _ | refine blk_drew ?_ | refine blk_alloc ?_ _)); exact BK204.out) hb); have n5_ := Aside0.mk (blk_below (g := gb209) (o := .cells #[.int .i64 t205, .slice Ao31 t223.length co31] 28 (0, 0)) (by (with_reducible repeat (first | refine blk_drewN ?_ _ | refine blk_drew ?_ | refine blk_alloc ?_ _)); exact BK209.out) hb); have n6_ := Aside0.mk (blk_below (g := gb215) (o := .cells #[.int .i64 t210, .slice Ao38 t211.length co38] 28 (0, 0)) (by (with_reducible repeat (first | refine blk_drewN ?_ _ | refine blk_drew ?_ | refine blk_alloc ?_ _)); exact BK215.out) hb); have n7_ := Aside0.mk (below_step (by repeat (first | (with_reducible first | exact HB.out | apply below_alloc | apply pw_below_drewN | apply below_drew1 | refine below_set ?_ GE193.out | refine below_set ?_ GE204.out | refine below_set ?_ GE209.out | refine below_set ?_ GE215.out) | exact HB.out)) hb); clear HO_205001; clear HO_210001; clear HO_216001; clear BK193; clear BK204; clear BK209; clear BK215; clear HB; have HO_205001 := n0_; have HO_210001 := n1_; have HO_216001 := n2_; have BK193 := n3_; have BK204 := n4_; have BK209 := n5_; have BK215 := n6_; have HB := n7_; clear n0_ n1_ n2_ n3_ n4_ n5_ n6_ n7_; (try clear hb); (try clear hb2); (try clear hk); (try clear hi); have hnb113 := NB193_204.out; have hnc113 := NB204_193.out; have hnb114 := NB193_209.out; have hnc114 := NB209_193.out; have hcz115_0 : w112.cell? ⟨gb193, 0, none⟩ = some (.int .i64 a0_0) := (blk_cell BK193.out 0).trans rfl; have hcz115_1 : w112.cell? ⟨gb193, 1, none⟩ = some (.slice A0_1 l0_1.length c0_1) := (blk_cell BK193.out 1).trans rfl; have hfz115_0 := blk_frozen BK193.out 0; have hfz115_1 := blk_frozen BK193.out 1) | ((with_reducible refine gate_callee (f := 8) rfl ?_); refine goesL_ (some 83) rfl rfl Try.func8 (by kernel_rfl) rfl #[.agg #[.int .i64 a0_0, .slice A0_1 l0_1.length c0_1]] rfl (by (try simp only [List.map_toArray, List.map_cons, List.map_nil]); first | done | rfl | (simp only [List.length_drop, List.length_take]; rfl)) ?_; (with_reducible refine (laws_toCircuit.calls kj61 a0_0 _ _ l0_1 t228 t229 _ ?side1 ?side2 A103.out).mono ?_); (case side1 => repeat (first | exact (Kd.C_below HR0_1.out HB.out) | (with_reducible refine Kd.C_alloc ?_ _) | (with_reducible refine Kd.C_drewN ?_ _) | (with_reducible refine Kd.C_drew ?_))); (case side2 => exact HC0_1.out); rintro e w116 ⟨v230, rfl, ho0, hb⟩; refine ⟨_, rfl, ?_⟩; have n0_ := Aside0.mk (Kd.R_elder' (by (with_reducible repeat (first | apply Kd.R_alloc | apply Kd.R_drewN | apply Kd.R_drew)); exact HO_205001.out) (Kd.R_base ho0) hb); have n1_ := Aside0.mk (Kd.R_elder' (by (with_reducible repeat (first | apply Kd.R_alloc | apply Kd.R_drewN | apply Kd.R_drew)); exact HO_210001.out) (Kd.R_base ho0) hb); have n2_ := Aside0.mk (Kd.R_elder' (by (with_reducible repeat (first | apply Kd.R_alloc | apply Kd.R_drewN | apply Kd.R_drew)); exact HO_216001.out) (Kd.R_base ho0) hb); have n3_ := Aside0.mk (Kd.R_lower (Kd.R_new' (Kd.R_new' (Kd.R_new' ho0 (Kd.R_lt (by (with_reducible repeat (first | apply Kd.R_alloc | apply Kd.R_drewN | apply Kd.R_drew)); exact HO_205001.out))) (Kd.R_lt (by (with_reducible repeat (first | apply Kd.R_alloc | apply Kd.R_drewN | apply Kd.R_drew)); exact HO_210001.out))) (Kd.R_lt (by (with_reducible repeat (first | apply Kd.R_alloc | apply Kd.R_drewN | apply Kd.R_drew)); exact HO_216001.out))) (below_size (by repeat (first | (with_reducible first | exact HB.out | apply below_alloc | apply pw_below_drewN | apply below_drew1 | refine below_set ?_ GE193.out | refine below_set ?_ GE204.out | refine below_set ?_ GE209.out | refine below_set ?_ GE215.out) | exact HB.out)))); have n4_ := Aside0.mk (blk_below (g := gb193) (o := .cells #[.int .i64 a0_0, .slice A0_1 l0_1.length c0_1] 24 (0, 0)) (by (with_reducible repeat (first | refine blk_drewN ?_ _ | refine blk_drew ?_ | refine blk_alloc ?_ _)); exact BK193.out) hb); have n5_ := Aside0.mk (blk_below (g := gb204) (o := .cells #[.int .i64 t199, .slice Ao24 t200.length co24] 28 (0, 0)) (by (with_reducible repeat (first | refine blk_drewN ?_ _ | refine blk_drew ?_ | refine blk_alloc ?_ _)); exact BK204.out) hb); have n6_ := Aside0.mk (blk_below (g := gb209) (o := .cells #[.int .i64 t205, .slice Ao31 t223.length co31] 28 (0, 0)) (by (with_reducible repeat (first | refine blk_drewN ?_ _ | refine blk_drew ?_ | refine blk_alloc ?_ _)); exact BK209.out) hb); have n7_ := Aside0.mk (blk_below (g := gb215) (o := .cells #[.int .i64 t210, .slice Ao38 t211.length co38] 28 (0, 0)) (by (with_reducible repeat (first | refine blk_drewN ?_ _ | refine blk_drew ?_ | refine blk_alloc ?_ _)); exact BK215.out) hb); have n8_ := Aside0.mk (below_step (by repeat (first | (with_reducible first | exact HB.out | apply below_alloc | apply pw_below_drewN | apply below_drew1 | refine below_set ?_ GE193.out | refine below_set ?_ GE204.out | refine below_set ?_ GE209.out | refine below_set ?_ GE215.out) | exact HB.out)) hb); clear HO_205001; clear HO_210001; clear HO_216001; clear BK193; clear BK204; clear BK209; clear BK215; clear HB; have HO_205001 := n0_; have HO_210001 := n1_; have HO_216001 := n2_; have HO231 := n3_; have BK193 := n4_; have BK204 := n5_; have BK209 := n6_; have BK215 := n7_; have HB := n8_; clear n0_ n1_ n2_ n3_ n4_ n5_ n6_ n7_ n8_; (try clear hb); (try clear hb2); (try clear hk); (try clear hi); (try clear ho0); obtain ⟨Ao117, co117, eo117⟩ := Kd.R_slice HO231.out; subst eo117) | ((with_reducible refine gate_callee (f := 9) rfl ?_); refine goesL_ (some 86) rfl rfl Try.func9 (by kernel_rfl) rfl #[.agg #[.int .i64 t228, .slice Ao117 t229.length co117], .int .i64 a1, .int .i64 a2] rfl (by (try simp only [List.map_toArray, List.map_cons, List.map_nil]); first | done | rfl | (simp only [List.length_drop, List.length_take]; rfl)) ?_; (with_reducible refine (impl_AddAnd.calls kj61 t228 _ _ t229 a1 a2 t232 t233 t236 _ ?side1 ?side2 A104.out).mono ?_); (case side1 => repeat (first | exact (Kd.R_reads' HO231.out).2.2 | (with_reducible refine Kd.C_alloc ?_ _) | (with_reducible refine Kd.C_drewN ?_ _) | (with_reducible refine Kd.C_drew ?_))); (case side2 => exact (Kd.R_reads' HO231.out).2.1); rintro e w118 ⟨v234, rfl, ho0, hb⟩; refine ⟨_, rfl, ?_⟩; have n0_ := Aside0.mk (Kd.R_elder' (by (with_reducible repeat (first | apply Kd.R_alloc | apply Kd.R_drewN | apply Kd.R_drew)); exact HO_205001.out) (Kd.R_base ho0) hb); have n1_ := Aside0.mk (Kd.R_elder' (by (with_reducible repeat (first | apply Kd.R_alloc | apply Kd.R_drewN | apply Kd.R_drew)); exact HO_210001.out) (Kd.R_base ho0) hb); have n2_ := Aside0.mk (Kd.R_elder' (by (with_reducible repeat (first | apply Kd.R_alloc | apply Kd.R_drewN | apply Kd.R_drew)); exact HO_216001.out) (Kd.R_base ho0) hb); have n3_ := Aside0.mk (Kd.R_elder' (by (with_reducible repeat (first | apply Kd.R_alloc | apply Kd.R_drewN | apply Kd.R_drew)); exact HO231.out) (Kd.R_base ho0) hb); have n4_ := Aside0.mk (Kd.R_lower (Kd.R_new' (Kd.R_new' (Kd.R_new' (Kd.R_new' ho0 (Kd.R_lt (by (with_reducible repeat (first | apply Kd.R_alloc | apply Kd.R_drewN | apply Kd.R_drew)); exact HO_205001.out))) (Kd.R_lt (by (with_reducible repeat (first | apply Kd.R_alloc | apply Kd.R_drewN | apply Kd.R_drew)); exact HO_210001.out))) (Kd.R_lt (by (with_reducible repeat (first | apply Kd.R_alloc | apply Kd.R_drewN | apply Kd.R_drew)); exact HO_216001.out))) (Kd.R_lt (by (with_reducible repeat (first | apply Kd.R_alloc | apply Kd.R_drewN | apply Kd.R_drew)); exact HO231.out))) (below_size (by repeat (first | (with_reducible first | exact HB.out | apply below_alloc | apply pw_below_drewN | apply below_drew1 | refine below_set ?_ GE193.out | refine below_set ?_ GE204.out | refine below_set ?_ GE209.out | refine below_set ?_ GE215.out) | exact HB.out)))); have n5_ := Aside0.mk (blk_below (g := gb193) (o := .cells #[.int .i64 a0_0, .slice A0_1 l0_1.length c0_1] 24 (0, 0)) (by (with_reducible repeat (first | refine blk_drewN ?_ _ | refine blk_drew ?_ | refine blk_alloc ?_ _)); exact BK193.out) hb); have n6_ := Aside0.mk (blk_below (g := gb204) (o := .cells #[.int .i64 t199, .slice Ao24 t200.length co24] 28 (0, 0)) (by (with_reducible repeat (first | refine blk_drewN ?_ _ | refine blk_drew ?_ | refine blk_alloc ?_ _)); exact BK204.out) hb); have n7_ := Aside0.mk (blk_below (g := gb209) (o := .cells #[.int .i64 t205, .slice Ao31 t223.length co31] 28 (0, 0)) (by (with_reducible repeat (first | refine blk_drewN ?_ _ | refine blk_drew ?_ | refine blk_alloc ?_ _)); exact BK209.out) hb); have n8_ := Aside0.mk (blk_below (g := gb215) (o := .cells #[.int .i64 t210, .slice Ao38 t211.length co38] 28 (0, 0)) (by (with_reducible repeat (first | refine blk_drewN ?_ _ | refine blk_drew ?_ | refine blk_alloc ?_ _)); exact BK215.out) hb); have n9_ := Aside0.mk (below_step (by repeat (first | (with_reducible first | exact HB.out | apply below_alloc | apply pw_below_drewN | apply below_drew1 | refine below_set ?_ GE193.out | refine below_set ?_ GE204.out | refine below_set ?_ GE209.out | refine below_set ?_ GE215.out) | exact HB.out)) hb); clear HO_205001; clear HO_210001; clear HO_216001; clear HO231; clear BK193; clear BK204; clear BK209; clear BK215; clear HB; have HO_205001 := n0_; have HO_210001 := n1_; have HO_216001 := n2_; have HO231 := n3_; have HO235 := n4_; have BK193 := n5_; have BK204 := n6_; have BK209 := n7_; have BK215 := n8_; have HB := n9_; clear n0_ n1_ n2_ n3_ n4_ n5_ n6_ n7_ n8_ n9_; (try clear hb); (try clear hb2); (try clear hk); (try clear hi); (try clear ho0)) | ((with_reducible refine gate_dst (N := 16) rfl ?_); refine box_event ?hg (N := 16) ?hd (cs := #[.int .i64 0, .slice none 0 0]) (t := 28) ?hr ?_; (case hd => rfl); (case hg => rfl); (case hr => first | (go_simp; done) | (go_simp; rfl)); intro gb237 hg w119 hbox hb; have n0_ := Aside0.mk (Kd.R_below (by (with_reducible repeat (first | apply Kd.R_alloc | apply Kd.R_drewN | apply Kd.R_drew)); exact HO_205001.out) hb); have n1_ := Aside0.mk (Kd.R_below (by (with_reducible repeat (first | apply Kd.R_alloc | apply Kd.R_drewN | apply Kd.R_drew)); exact HO_210001.out) hb); have n2_ := Aside0.mk (Kd.R_below (by (with_reducible repeat (first | apply Kd.R_alloc | apply Kd.R_drewN | apply Kd.R_drew)); exact HO_216001.out) hb); have n3_ := Aside0.mk (Kd.R_below (by (with_reducible repeat (first | apply Kd.R_alloc | apply Kd.R_drewN | apply Kd.R_drew)); exact HO231.out) hb); have n4_ := Aside0.mk (Kd.R_below (by (with_reducible repeat (first | apply Kd.R_alloc | apply Kd.R_drewN | apply Kd.R_drew)); exact HO235.out) hb); have n5_ := Aside0.mk (blk_below (g := gb193) (o := .cells #[.int .i64 a0_0, .slice A0_1 l0_1.length c0_1] 24 (0, 0)) (by (with_reducible repeat (first | refine blk_drewN ?_ _ | refine blk_drew ?_ | refine blk_alloc ?_ _)); exact BK193.out) hb); have n6_ := Aside0.mk (blk_below (g := gb204) (o := .cells #[.int .i64 t199, .slice Ao24 t200.length co24] 28 (0, 0)) (by (with_reducible repeat (first | refine blk_drewN ?_ _ | refine blk_drew ?_ | refine blk_alloc ?_ _)); exact BK204.out) hb); have n7_ := Aside0.mk (blk_below (g := gb209) (o := .cells #[.int .i64 t205, .slice Ao31 t223.length co31] 28 (0, 0)) (by (with_reducible repeat (first | refine blk_drewN ?_ _ | refine blk_drew ?_ | refine blk_alloc ?_ _)); exact BK209.out) hb); have n8_ := Aside0.mk (blk_below (g := gb215) (o := .cells #[.int .i64 t210, .slice Ao38 t211.length co38] 28 (0, 0)) (by (with_reducible repeat (first | refine blk_drewN ?_ _ | refine blk_drew ?_ | refine blk_alloc ?_ _)); exact BK215.out) hb); have n9_ := Aside0.mk (below_step (by repeat (first | (with_reducible first | exact HB.out | apply below_alloc | apply pw_below_drewN | apply below_drew1 | refine below_set ?_ GE193.out | refine below_set ?_ GE204.out | refine below_set ?_ GE209.out | refine below_set ?_ GE215.out) | exact HB.out)) hb); have n10_ := Aside0.mk (hbox); have n11_ := Aside0.mk ((by rw [hg]; exact (below_size (by repeat (first | (with_reducible first | exact HB.out | apply below_alloc | apply pw_below_drewN | apply below_drew1 | refine below_set ?_ GE193.out | refine below_set ?_ GE204.out | refine below_set ?_ GE209.out | refine below_set ?_ GE215.out) | exact HB.out))) : w.heap.size ≤ gb237)); have n12_ := Aside0.mk ((by rw [hg]; exact (below_size (by repeat (first | (with_reducible first | exact HB.out | apply below_alloc | apply pw_below_drewN | apply below_drew1 | refine below_set ?_ GE193.out | refine below_set ?_ GE204.out | refine below_set ?_ GE209.out | refine below_set ?_ GE215.out) | exact HB.out))) : w.heap.size ≤ gb237)); have n13_ := Aside0.mk ((by rw [hg]; exact Nat.ne_of_lt (blk_lt (g := gb193) (o := .cells #[.int .i64 a0_0, .slice A0_1 l0_1.length c0_1] 24 (0, 0)) (by (with_reducible repeat (first | refine blk_drewN ?_ _ | refine blk_drew ?_ | refine blk_alloc ?_ _)); exact BK193.out)) : gb193 ≠ gb237)); have n14_ := Aside0.mk ((by rw [hg]; exact Nat.ne_of_gt (blk_lt (g := gb193) (o := .cells #[.int .i64 a0_0, .slice A0_1 l0_1.length c0_1] 24 (0, 0)) (by (with_reducible repeat (first | refine blk_drewN ?_ _ | refine blk_drew ?_ | refine blk_alloc ?_ _)); exact BK193.out)) : gb237 ≠ gb193)); have n15_ := Aside0.mk ((by rw [hg]; exact Nat.ne_of_lt (blk_lt (g := gb204) (o := .cells #[.int .i64 t199, .slice Ao24 t200.length co24] 28 (0, 0)) (by (with_reducible repeat (first | refine blk_drewN ?_ _ | refine blk_drew ?_ | refine blk_alloc ?_ _)); exact BK204.out)) : gb204 ≠ gb237)); have n16_ := Aside0.mk ((by rw [hg]; exact Nat.ne_of_gt (blk_lt (g := gb204) (o := .cells #[.int .i64 t199, .slice Ao24 t200.length co24] 28 (0, 0)) (by (with_reducible repeat (first | refine blk_drewN ?_ _ | refine blk_drew ?_ | refine blk_alloc ?_ _)); exact BK204.out)) : gb237 ≠ gb204)); have n17_ := Aside0.mk ((by rw [hg]; exact Nat.ne_of_lt (blk_lt (g := gb209) (o := .cells #[.int .i64 t205, .slice Ao31 t223.length co31] 28 (0, 0)) (by (with_reducible repeat (first | refine blk_drewN ?_ _ | refine blk_drew ?_ | refine blk_alloc ?_ _)); exact BK209.out)) : gb209 ≠ gb237)); have n18_ := Aside0.mk ((by rw [hg]; exact Nat.ne_of_gt (blk_lt (g := gb209) (o := .cells #[.int .i64 t205, .slice Ao31 t223.length co31] 28 (0, 0)) (by (with_reducible repeat (first | refine blk_drewN ?_ _ | refine blk_drew ?_ | refine blk_alloc ?_ _)); exact BK209.out)) : gb237 ≠ gb209)); have n19_ := Aside0.mk ((by rw [hg]; exact Nat.ne_of_lt (blk_lt (g := gb215) (o := .cells #[.int .i64 t210, .slice Ao38 t211.length co38] 28 (0, 0)) (by (with_reducible repeat (first | refine blk_drewN ?_ _ | refine blk_drew ?_ | refine blk_alloc ?_ _)); exact BK215.out)) : gb215 ≠ gb237)); have n20_ := Aside0.mk ((by rw [hg]; exact Nat.ne_of_gt (blk_lt (g := gb215) (o := .cells #[.int .i64 t210, .slice Ao38 t211.length co38] 28 (0, 0)) (by (with_reducible repeat (first | refine blk_drewN ?_ _ | refine blk_drew ?_ | refine blk_alloc ?_ _)); exact BK215.out)) : gb237 ≠ gb215)); clear HO_205001; clear HO_210001; clear HO_216001; clear HO231; clear HO235; clear BK193; clear BK204; clear BK209; clear BK215; clear HB; have HO_205001 := n0_; have HO_210001 := n1_; have HO_216001 := n2_; have HO231 := n3_; have HO235 := n4_; have BK193 := n5_; have BK204 := n6_; have BK209 := n7_; have BK215 := n8_; have HB := n9_; have BK237 := n10_; have GW237 := n11_; have GE237 := n12_; have NB193_237 := n13_; have NB237_193 := n14_; have NB204_237 := n15_; have NB237_204 := n16_; have NB209_237 := n17_; have NB237_209 := n18_; have NB215_237 := n19_; have NB237_215 := n20_; clear n0_ n1_ n2_ n3_ n4_ n5_ n6_ n7_ n8_ n9_ n10_ n11_ n12_ n13_ n14_ n15_ n16_ n17_ n18_ n19_ n20_; clear hb hbox hg; have hnb120 := NB237_193.out; have hnc120 := NB193_237.out; have hnb121 := NB237_204.out; have hnc121 := NB204_237.out; have hnb122 := NB237_209.out; have hnc122 := NB209_237.out; have hnb123 := NB237_215.out; have hnc123 := NB215_237.out; have hcz124_0 : w119.cell? ⟨gb237, 0, none⟩ = some (.int .i64 0) := (blk_cell BK237.out 0).trans rfl; have hcz124_1 : w119.cell? ⟨gb237, 1, none⟩ = some (.slice none 0 0) := (blk_cell BK237.out 1).trans rfl; have hfz124_0 := blk_frozen BK237.out 0; have hfz124_1 := blk_frozen BK237.out 1; obtain ⟨Ao125, co125, eo125⟩ := Kd.R_slice HO235.out; subst eo125))
                      (try simp only [Act.put, List.setIfInBounds_toArray, List.set_cons_zero, List.set_cons_succ])
                      go_cut [97] (fun v97 wc => ∃ (kq : Nat) (x97_104 : Bool), v97 = .bool x97_104 ∧ Aside0 (laws_FnExactAddAnd.j2 kq t225 x97_104 t210 t226 = some r) ∧ Aside0 (kq ≤ kj61) ∧ Aside0 (Kd.R k57 57 wc w.heap.size (fun k_ => some k_ ≠ ((.slice Ao31 t223.length co31) : Value).ownBlock ∧ some k_ ≠ ((.slice Ao38 t211.length co38) : Value).ownBlock ∧ some k_ ≠ ((.slice Ao125 t233.length co125) : Value).ownBlock) (.slice Ao24 t200.length co24) t200) ∧ Aside0 (Kd.R k57 57 wc w.heap.size (fun k_ => some k_ ≠ ((.slice Ao24 t200.length co24) : Value).ownBlock ∧ some k_ ≠ ((.slice Ao38 t211.length co38) : Value).ownBlock ∧ some k_ ≠ ((.slice Ao125 t233.length co125) : Value).ownBlock) (.slice Ao31 t223.length co31) t223) ∧ Aside0 (Kd.R k57 57 wc w.heap.size (fun k_ => some k_ ≠ ((.slice Ao24 t200.length co24) : Value).ownBlock ∧ some k_ ≠ ((.slice Ao31 t223.length co31) : Value).ownBlock ∧ some k_ ≠ ((.slice Ao125 t233.length co125) : Value).ownBlock) (.slice Ao38 t211.length co38) t226) ∧ Aside0 (Kd.R k57 57 wc w.heap.size (fun k_ => some k_ ≠ ((.slice Ao24 t200.length co24) : Value).ownBlock ∧ some k_ ≠ ((.slice Ao31 t223.length co31) : Value).ownBlock ∧ some k_ ≠ ((.slice Ao38 t211.length co38) : Value).ownBlock) (.slice Ao125 t233.length co125) t233) ∧ Aside0 (wc.heap[gb193]? = some (.cells #[.int .i64 a0_0, (.slice A0_1 l0_1.length c0_1)] 24 (0, 0))) ∧ Aside0 (wc.heap[gb204]? = some (.cells #[.int .i64 t199, (.slice Ao24 t200.length co24)] 28 (0, 0))) ∧ Aside0 (wc.heap[gb209]? = some (.cells #[.int .i64 t205, (.slice Ao31 t223.length co31)] 28 (0, 0))) ∧ Aside0 (wc.heap[gb215]? = some (.cells #[.int .i64 t210, (.slice Ao38 t211.length co38)] 28 (0, 0))) ∧ Aside0 (wc.heap[gb237]? = some (.cells #[.int .i64 t232, (.slice Ao125 t233.length co125)] 28 (0, 0))) ∧ Aside0 (Below w.heap.size w wc))
                      case first =>
                        have H := HC105.out
                        clear HC105
                        replace H := Option.bind_eq_some_iff.mp H
                        obtain ⟨t238, A1260, H⟩ := H
                        replace H : (if t238 = true then (laws_FnExactAddAnd.j2 kj61 t225 (t236 != t203) t210 t226) else (laws_FnExactAddAnd.j2 kj61 t225 true t210 t226)) = some r := H
                        have A126 := Aside0.mk A1260
                        clear A1260
                        by_cases c127 : t238 = true
                        · subst c127
                          have H1 : (laws_FnExactAddAnd.j2 kj61 t225 (t236 != t203) t210 t226) = some r := by rw [if_pos rfl] at H; exact H
                          clear H
                          have H := H1
                          clear H1
                          have H' := Aside0.mk H
                          clear H
                          have hnb128 := NB237_193.out
                          have hnc128 := NB193_237.out
                          have hnb129 := NB237_204.out
                          have hnc129 := NB204_237.out
                          have hnb130 := NB237_209.out
                          have hnc130 := NB209_237.out
                          have hnb131 := NB237_215.out
                          have hnc131 := NB215_237.out
                          have hcz132_0 : w119.cell? ⟨gb237, 0, none⟩ = some (.int .i64 0) := (blk_cell BK237.out 0).trans rfl
                          have hcz132_1 : w119.cell? ⟨gb237, 1, none⟩ = some (.slice none 0 0) := (blk_cell BK237.out 1).trans rfl
                          have hfz132_0 := blk_frozen BK237.out 0
                          have hfz132_1 := blk_frozen BK237.out 1
                          have hnb133 := NB204_193.out
                          have hnc133 := NB193_204.out
                          have hnb134 := NB204_209.out
                          have hnc134 := NB209_204.out
                          have hnb135 := NB204_215.out
                          have hnc135 := NB215_204.out
                          have hcz136_0 : w119.cell? ⟨gb204, 0, none⟩ = some (.int .i64 t199) := (blk_cell BK204.out 0).trans rfl
                          have hcz136_1 : w119.cell? ⟨gb204, 1, none⟩ = some (.slice Ao24 t200.length co24) := (blk_cell BK204.out 1).trans rfl
                          have hfz136_0 := blk_frozen BK204.out 0
                          have hfz136_1 := blk_frozen BK204.out 1
                          go_wp2_with (first | ((with_reducible refine gate_callee (f := 10) rfl ?_); refine goesL_ (some 91) rfl rfl Try.func10 (by kernel_rfl) rfl #[.agg #[.int .i64 t232, .slice Ao125 t233.length co125], .agg #[.int .i64 t199, .slice Ao24 t200.length co24]] rfl (by (try simp only [List.map_toArray, List.map_cons, List.map_nil]); first | done | rfl | (simp only [List.length_drop, List.length_take]; rfl)) ?_; (with_reducible refine (laws_eqCircuit.calls kj61 t232 _ _ t233 t199 _ _ t200 true _ ?side1 ?side2 ?side3 ?side4 A126.out).mono ?_); (case side1 => refine (Kd.R_reads' (e := 57) (base := w.heap.size) (ok := fun k_ => ((((True ∧ some k_ ≠ (.slice Ao24 t200.length co24 : Value).ownBlock) ∧ some k_ ≠ (.slice Ao31 t223.length co31 : Value).ownBlock) ∧ some k_ ≠ (.slice Ao38 t211.length co38 : Value).ownBlock) ∧ some k_ ≠ (.slice Ao117 t229.length co117 : Value).ownBlock)) (n := t233.length) (c := co125) ?_).2.2; exact (by (with_reducible repeat (first | apply Kd.R_alloc | apply Kd.R_drewN | apply Kd.R_drew)); exact (Kd.R_mono (Kd.R_far (p := ⟨gb237, 1, none⟩) (Kd.R_far (p := ⟨gb237, 0, none⟩) (Kd.R_types HO235.out BK237.out (by decide)) (fun _ hk => hk.2) (.int .i64 t232)) (fun _ hk => hk.2) (.slice Ao125 t233.length co125)) (fun _ h_ => h_.1)))); (case side2 => exact (Kd.R_reads' HO235.out).2.1); (case side3 => refine (Kd.R_reads' (e := 57) (base := w.heap.size) (ok := fun k_ => (((some k_ ≠ (.slice Ao31 t223.length co31 : Value).ownBlock ∧ some k_ ≠ (.slice Ao38 t211.length co38 : Value).ownBlock) ∧ some k_ ≠ (.slice Ao117 t229.length co117 : Value).ownBlock) ∧ some k_ ≠ (.slice Ao125 t233.length co125 : Value).ownBlock)) (n := t200.length) (c := co24) ?_).2.2; exact (by (with_reducible repeat (first | apply Kd.R_alloc | apply Kd.R_drewN | apply Kd.R_drew)); exact (Kd.R_mono (Kd.R_far (p := ⟨gb237, 1, none⟩) (Kd.R_far (p := ⟨gb237, 0, none⟩) (Kd.R_types HO_205001.out BK237.out (by decide)) (fun _ hk => hk.2) (.int .i64 t232)) (fun _ hk => hk.2) (.slice Ao125 t233.length co125)) (fun _ h_ => h_.1)))); (case side4 => exact (Kd.R_reads' HO_205001.out).2.1); rintro e w137 ⟨rfl, hb⟩; refine ⟨_, rfl, ?_⟩; have n0_ := Aside0.mk (Kd.R_below (by (with_reducible repeat (first | apply Kd.R_alloc | apply Kd.R_drewN | apply Kd.R_drew)); exact (Kd.R_mono (Kd.R_far (p := ⟨gb237, 1, none⟩) (Kd.R_far (p := ⟨gb237, 0, none⟩) (Kd.R_types HO_205001.out BK237.out (by decide)) (fun _ hk => hk.2) (.int .i64 t232)) (fun _ hk => hk.2) (.slice Ao125 t233.length co125)) (fun _ h_ => h_.1))) hb); have n1_ := Aside0.mk (Kd.R_below (by (with_reducible repeat (first | apply Kd.R_alloc | apply Kd.R_drewN | apply Kd.R_drew)); exact (Kd.R_mono (Kd.R_far (p := ⟨gb237, 1, none⟩) (Kd.R_far (p := ⟨gb237, 0, none⟩) (Kd.R_types HO_210001.out BK237.out (by decide)) (fun _ hk => hk.2) (.int .i64 t232)) (fun _ hk => hk.2) (.slice Ao125 t233.length co125)) (fun _ h_ => h_.1))) hb); have n2_ := Aside0.mk (Kd.R_below (by (with_reducible repeat (first | apply Kd.R_alloc | apply Kd.R_drewN | apply Kd.R_drew)); exact (Kd.R_mono (Kd.R_far (p := ⟨gb237, 1, none⟩) (Kd.R_far (p := ⟨gb237, 0, none⟩) (Kd.R_types HO_216001.out BK237.out (by decide)) (fun _ hk => hk.2) (.int .i64 t232)) (fun _ hk => hk.2) (.slice Ao125 t233.length co125)) (fun _ h_ => h_.1))) hb); have n3_ := Aside0.mk (Kd.R_below (by (with_reducible repeat (first | apply Kd.R_alloc | apply Kd.R_drewN | apply Kd.R_drew)); exact (Kd.R_mono (Kd.R_far (p := ⟨gb237, 1, none⟩) (Kd.R_far (p := ⟨gb237, 0, none⟩) (Kd.R_types HO231.out BK237.out (by decide)) (fun _ hk => hk.2) (.int .i64 t232)) (fun _ hk => hk.2) (.slice Ao125 t233.length co125)) (fun _ h_ => h_.1))) hb); have n4_ := Aside0.mk (Kd.R_below (by (with_reducible repeat (first | apply Kd.R_alloc | apply Kd.R_drewN | apply Kd.R_drew)); exact (Kd.R_mono (Kd.R_far (p := ⟨gb237, 1, none⟩) (Kd.R_far (p := ⟨gb237, 0, none⟩) (Kd.R_types HO235.out BK237.out (by decide)) (fun _ hk => hk.2) (.int .i64 t232)) (fun _ hk => hk.2) (.slice Ao125 t233.length co125)) (fun _ h_ => h_.1))) hb); have n5_ := Aside0.mk (blk_below (g := gb193) (o := .cells #[.int .i64 a0_0, .slice A0_1 l0_1.length c0_1] 24 (0, 0)) (by (with_reducible repeat (first | refine blk_drewN ?_ _ | refine blk_drew ?_ | refine blk_alloc ?_ _)); refine blk_far ?_ NB193_237.out _; (with_reducible repeat (first | refine blk_drewN ?_ _ | refine blk_drew ?_ | refine blk_alloc ?_ _)); refine blk_far ?_ NB193_237.out _; (with_reducible repeat (first | refine blk_drewN ?_ _ | refine blk_drew ?_ | refine blk_alloc ?_ _)); exact BK193.out) hb); have n6_ := Aside0.mk (blk_below (g := gb204) (o := .cells #[.int .i64 t199, .slice Ao24 t200.length co24] 28 (0, 0)) (by (with_reducible repeat (first | refine blk_drewN ?_ _ | refine blk_drew ?_ | refine blk_alloc ?_ _)); refine blk_far ?_ NB204_237.out _; (with_reducible repeat (first | refine blk_drewN ?_ _ | refine blk_drew ?_ | refine blk_alloc ?_ _)); refine blk_far ?_ NB204_237.out _; (with_reducible repeat (first | refine blk_drewN ?_ _ | refine blk_drew ?_ | refine blk_alloc ?_ _)); exact BK204.out) hb); have n7_ := Aside0.mk (blk_below (g := gb209) (o := .cells #[.int .i64 t205, .slice Ao31 t223.length co31] 28 (0, 0)) (by (with_reducible repeat (first | refine blk_drewN ?_ _ | refine blk_drew ?_ | refine blk_alloc ?_ _)); refine blk_far ?_ NB209_237.out _; (with_reducible repeat (first | refine blk_drewN ?_ _ | refine blk_drew ?_ | refine blk_alloc ?_ _)); refine blk_far ?_ NB209_237.out _; (with_reducible repeat (first | refine blk_drewN ?_ _ | refine blk_drew ?_ | refine blk_alloc ?_ _)); exact BK209.out) hb); have n8_ := Aside0.mk (blk_below (g := gb215) (o := .cells #[.int .i64 t210, .slice Ao38 t211.length co38] 28 (0, 0)) (by (with_reducible repeat (first | refine blk_drewN ?_ _ | refine blk_drew ?_ | refine blk_alloc ?_ _)); refine blk_far ?_ NB215_237.out _; (with_reducible repeat (first | refine blk_drewN ?_ _ | refine blk_drew ?_ | refine blk_alloc ?_ _)); refine blk_far ?_ NB215_237.out _; (with_reducible repeat (first | refine blk_drewN ?_ _ | refine blk_drew ?_ | refine blk_alloc ?_ _)); exact BK215.out) hb); have n9_ := Aside0.mk (blk_below (g := gb237) (o := .cells #[.int .i64 t232, .slice Ao125 t233.length co125] 28 (0, 0)) (by (with_reducible repeat (first | refine blk_drewN ?_ _ | refine blk_drew ?_ | refine blk_alloc ?_ _)); refine blk_put (cs := #[.int .i64 t232, .slice none 0 0]) ?_ 1 _ rfl; (with_reducible repeat (first | refine blk_drewN ?_ _ | refine blk_drew ?_ | refine blk_alloc ?_ _)); refine blk_put (cs := #[.int .i64 0, .slice none 0 0]) ?_ 0 _ rfl; (with_reducible repeat (first | refine blk_drewN ?_ _ | refine blk_drew ?_ | refine blk_alloc ?_ _)); exact BK237.out) hb); have n10_ := Aside0.mk (below_step (by repeat (first | (with_reducible first | exact HB.out | apply below_alloc | apply pw_below_drewN | apply below_drew1 | refine below_set ?_ GE193.out | refine below_set ?_ GE204.out | refine below_set ?_ GE209.out | refine below_set ?_ GE215.out | refine below_set ?_ GE237.out) | exact HB.out)) hb); clear HO_205001; clear HO_210001; clear HO_216001; clear HO231; clear HO235; clear BK193; clear BK204; clear BK209; clear BK215; clear BK237; clear HB; have HO_205001 := n0_; have HO_210001 := n1_; have HO_216001 := n2_; have HO231 := n3_; have HO235 := n4_; have BK193 := n5_; have BK204 := n6_; have BK209 := n7_; have BK215 := n8_; have BK237 := n9_; have HB := n10_; clear n0_ n1_ n2_ n3_ n4_ n5_ n6_ n7_ n8_ n9_ n10_; (try clear hb); (try clear hb2); (try clear hk); (try clear hi)))
                          go_meet
                          case rel => exact ⟨_, ((t236 != t203)), (by first | rfl | (simp; done) | (simp [*]; done)), H', ⟨by have := HJ12.out; have := HJ61.out; first | omega | exact Nat.le_refl _⟩, ⟨by (try simp only [hl210001_61]); (with_reducible repeat (first | apply Kd.R_alloc | apply Kd.R_drewN | apply Kd.R_drew)); exact Kd.R_mono HO_205001.out (fun _ hk => ⟨hk.1.1.1, ⟨hk.1.1.2, hk.2⟩⟩)⟩, ⟨by (try simp only [hl210001_61]); (with_reducible repeat (first | apply Kd.R_alloc | apply Kd.R_drewN | apply Kd.R_drew)); exact Kd.R_mono HO_210001.out (fun _ hk => ⟨hk.1.1.1, ⟨hk.1.1.2, hk.2⟩⟩)⟩, ⟨by (try simp only [hl210001_61]); (with_reducible repeat (first | apply Kd.R_alloc | apply Kd.R_drewN | apply Kd.R_drew)); exact Kd.R_mono HO_216001.out (fun _ hk => ⟨hk.1.1.1, ⟨hk.1.1.2, hk.2⟩⟩)⟩, ⟨by (try simp only [hl210001_61]); (with_reducible repeat (first | apply Kd.R_alloc | apply Kd.R_drewN | apply Kd.R_drew)); exact Kd.R_mono HO235.out (fun _ hk => ⟨hk.1.1.1.2, ⟨hk.1.1.2, hk.1.2⟩⟩)⟩, ⟨by (try simp only [hl210001_61]); (with_reducible repeat (first | refine blk_drewN ?_ _ | refine blk_drew ?_ | refine blk_alloc ?_ _)); exact BK193.out⟩, ⟨by (try simp only [hl210001_61]); (with_reducible repeat (first | refine blk_drewN ?_ _ | refine blk_drew ?_ | refine blk_alloc ?_ _)); exact BK204.out⟩, ⟨by (try simp only [hl210001_61]); (with_reducible repeat (first | refine blk_drewN ?_ _ | refine blk_drew ?_ | refine blk_alloc ?_ _)); exact BK209.out⟩, ⟨by (try simp only [hl210001_61]); (with_reducible repeat (first | refine blk_drewN ?_ _ | refine blk_drew ?_ | refine blk_alloc ?_ _)); exact BK215.out⟩, ⟨by (try simp only [hl210001_61]); (with_reducible repeat (first | refine blk_drewN ?_ _ | refine blk_drew ?_ | refine blk_alloc ?_ _)); exact BK237.out⟩, ⟨by repeat (first | (with_reducible first | exact HB.out | apply below_alloc | apply pw_below_drewN | apply below_drew1 | refine below_set ?_ GE193.out | refine below_set ?_ GE204.out | refine below_set ?_ GE209.out | refine below_set ?_ GE215.out | refine below_set ?_ GE237.out) | exact HB.out)⟩⟩
                        · replace c127 := Bool.eq_false_iff.mpr c127
                          subst c127
                          have H1 : (laws_FnExactAddAnd.j2 kj61 t225 true t210 t226) = some r := by rw [if_neg (show ¬ (false = true) by decide)] at H; exact H
                          clear H
                          have H := H1
                          clear H1
                          have H' := Aside0.mk H
                          clear H
                          have hnb138 := NB237_193.out
                          have hnc138 := NB193_237.out
                          have hnb139 := NB237_204.out
                          have hnc139 := NB204_237.out
                          have hnb140 := NB237_209.out
                          have hnc140 := NB209_237.out
                          have hnb141 := NB237_215.out
                          have hnc141 := NB215_237.out
                          have hcz142_0 : w119.cell? ⟨gb237, 0, none⟩ = some (.int .i64 0) := (blk_cell BK237.out 0).trans rfl
                          have hcz142_1 : w119.cell? ⟨gb237, 1, none⟩ = some (.slice none 0 0) := (blk_cell BK237.out 1).trans rfl
                          have hfz142_0 := blk_frozen BK237.out 0
                          have hfz142_1 := blk_frozen BK237.out 1
                          have hnb143 := NB204_193.out
                          have hnc143 := NB193_204.out
                          have hnb144 := NB204_209.out
                          have hnc144 := NB209_204.out
                          have hnb145 := NB204_215.out
                          have hnc145 := NB215_204.out
                          have hcz146_0 : w119.cell? ⟨gb204, 0, none⟩ = some (.int .i64 t199) := (blk_cell BK204.out 0).trans rfl
                          have hcz146_1 : w119.cell? ⟨gb204, 1, none⟩ = some (.slice Ao24 t200.length co24) := (blk_cell BK204.out 1).trans rfl
                          have hfz146_0 := blk_frozen BK204.out 0
                          have hfz146_1 := blk_frozen BK204.out 1
                          go_wp2_with (first | ((with_reducible refine gate_callee (f := 10) rfl ?_); refine goesL_ (some 91) rfl rfl Try.func10 (by kernel_rfl) rfl #[.agg #[.int .i64 t232, .slice Ao125 t233.length co125], .agg #[.int .i64 t199, .slice Ao24 t200.length co24]] rfl (by (try simp only [List.map_toArray, List.map_cons, List.map_nil]); first | done | rfl | (simp only [List.length_drop, List.length_take]; rfl)) ?_; (with_reducible refine (laws_eqCircuit.calls kj61 t232 _ _ t233 t199 _ _ t200 false _ ?side1 ?side2 ?side3 ?side4 A126.out).mono ?_); (case side1 => refine (Kd.R_reads' (e := 57) (base := w.heap.size) (ok := fun k_ => ((((True ∧ some k_ ≠ (.slice Ao24 t200.length co24 : Value).ownBlock) ∧ some k_ ≠ (.slice Ao31 t223.length co31 : Value).ownBlock) ∧ some k_ ≠ (.slice Ao38 t211.length co38 : Value).ownBlock) ∧ some k_ ≠ (.slice Ao117 t229.length co117 : Value).ownBlock)) (n := t233.length) (c := co125) ?_).2.2; exact (by (with_reducible repeat (first | apply Kd.R_alloc | apply Kd.R_drewN | apply Kd.R_drew)); exact (Kd.R_mono (Kd.R_far (p := ⟨gb237, 1, none⟩) (Kd.R_far (p := ⟨gb237, 0, none⟩) (Kd.R_types HO235.out BK237.out (by decide)) (fun _ hk => hk.2) (.int .i64 t232)) (fun _ hk => hk.2) (.slice Ao125 t233.length co125)) (fun _ h_ => h_.1)))); (case side2 => exact (Kd.R_reads' HO235.out).2.1); (case side3 => refine (Kd.R_reads' (e := 57) (base := w.heap.size) (ok := fun k_ => (((some k_ ≠ (.slice Ao31 t223.length co31 : Value).ownBlock ∧ some k_ ≠ (.slice Ao38 t211.length co38 : Value).ownBlock) ∧ some k_ ≠ (.slice Ao117 t229.length co117 : Value).ownBlock) ∧ some k_ ≠ (.slice Ao125 t233.length co125 : Value).ownBlock)) (n := t200.length) (c := co24) ?_).2.2; exact (by (with_reducible repeat (first | apply Kd.R_alloc | apply Kd.R_drewN | apply Kd.R_drew)); exact (Kd.R_mono (Kd.R_far (p := ⟨gb237, 1, none⟩) (Kd.R_far (p := ⟨gb237, 0, none⟩) (Kd.R_types HO_205001.out BK237.out (by decide)) (fun _ hk => hk.2) (.int .i64 t232)) (fun _ hk => hk.2) (.slice Ao125 t233.length co125)) (fun _ h_ => h_.1)))); (case side4 => exact (Kd.R_reads' HO_205001.out).2.1); rintro e w147 ⟨rfl, hb⟩; refine ⟨_, rfl, ?_⟩; have n0_ := Aside0.mk (Kd.R_below (by (with_reducible repeat (first | apply Kd.R_alloc | apply Kd.R_drewN | apply Kd.R_drew)); exact (Kd.R_mono (Kd.R_far (p := ⟨gb237, 1, none⟩) (Kd.R_far (p := ⟨gb237, 0, none⟩) (Kd.R_types HO_205001.out BK237.out (by decide)) (fun _ hk => hk.2) (.int .i64 t232)) (fun _ hk => hk.2) (.slice Ao125 t233.length co125)) (fun _ h_ => h_.1))) hb); have n1_ := Aside0.mk (Kd.R_below (by (with_reducible repeat (first | apply Kd.R_alloc | apply Kd.R_drewN | apply Kd.R_drew)); exact (Kd.R_mono (Kd.R_far (p := ⟨gb237, 1, none⟩) (Kd.R_far (p := ⟨gb237, 0, none⟩) (Kd.R_types HO_210001.out BK237.out (by decide)) (fun _ hk => hk.2) (.int .i64 t232)) (fun _ hk => hk.2) (.slice Ao125 t233.length co125)) (fun _ h_ => h_.1))) hb); have n2_ := Aside0.mk (Kd.R_below (by (with_reducible repeat (first | apply Kd.R_alloc | apply Kd.R_drewN | apply Kd.R_drew)); exact (Kd.R_mono (Kd.R_far (p := ⟨gb237, 1, none⟩) (Kd.R_far (p := ⟨gb237, 0, none⟩) (Kd.R_types HO_216001.out BK237.out (by decide)) (fun _ hk => hk.2) (.int .i64 t232)) (fun _ hk => hk.2) (.slice Ao125 t233.length co125)) (fun _ h_ => h_.1))) hb); have n3_ := Aside0.mk (Kd.R_below (by (with_reducible repeat (first | apply Kd.R_alloc | apply Kd.R_drewN | apply Kd.R_drew)); exact (Kd.R_mono (Kd.R_far (p := ⟨gb237, 1, none⟩) (Kd.R_far (p := ⟨gb237, 0, none⟩) (Kd.R_types HO231.out BK237.out (by decide)) (fun _ hk => hk.2) (.int .i64 t232)) (fun _ hk => hk.2) (.slice Ao125 t233.length co125)) (fun _ h_ => h_.1))) hb); have n4_ := Aside0.mk (Kd.R_below (by (with_reducible repeat (first | apply Kd.R_alloc | apply Kd.R_drewN | apply Kd.R_drew)); exact (Kd.R_mono (Kd.R_far (p := ⟨gb237, 1, none⟩) (Kd.R_far (p := ⟨gb237, 0, none⟩) (Kd.R_types HO235.out BK237.out (by decide)) (fun _ hk => hk.2) (.int .i64 t232)) (fun _ hk => hk.2) (.slice Ao125 t233.length co125)) (fun _ h_ => h_.1))) hb); have n5_ := Aside0.mk (blk_below (g := gb193) (o := .cells #[.int .i64 a0_0, .slice A0_1 l0_1.length c0_1] 24 (0, 0)) (by (with_reducible repeat (first | refine blk_drewN ?_ _ | refine blk_drew ?_ | refine blk_alloc ?_ _)); refine blk_far ?_ NB193_237.out _; (with_reducible repeat (first | refine blk_drewN ?_ _ | refine blk_drew ?_ | refine blk_alloc ?_ _)); refine blk_far ?_ NB193_237.out _; (with_reducible repeat (first | refine blk_drewN ?_ _ | refine blk_drew ?_ | refine blk_alloc ?_ _)); exact BK193.out) hb); have n6_ := Aside0.mk (blk_below (g := gb204) (o := .cells #[.int .i64 t199, .slice Ao24 t200.length co24] 28 (0, 0)) (by (with_reducible repeat (first | refine blk_drewN ?_ _ | refine blk_drew ?_ | refine blk_alloc ?_ _)); refine blk_far ?_ NB204_237.out _; (with_reducible repeat (first | refine blk_drewN ?_ _ | refine blk_drew ?_ | refine blk_alloc ?_ _)); refine blk_far ?_ NB204_237.out _; (with_reducible repeat (first | refine blk_drewN ?_ _ | refine blk_drew ?_ | refine blk_alloc ?_ _)); exact BK204.out) hb); have n7_ := Aside0.mk (blk_below (g := gb209) (o := .cells #[.int .i64 t205, .slice Ao31 t223.length co31] 28 (0, 0)) (by (with_reducible repeat (first | refine blk_drewN ?_ _ | refine blk_drew ?_ | refine blk_alloc ?_ _)); refine blk_far ?_ NB209_237.out _; (with_reducible repeat (first | refine blk_drewN ?_ _ | refine blk_drew ?_ | refine blk_alloc ?_ _)); refine blk_far ?_ NB209_237.out _; (with_reducible repeat (first | refine blk_drewN ?_ _ | refine blk_drew ?_ | refine blk_alloc ?_ _)); exact BK209.out) hb); have n8_ := Aside0.mk (blk_below (g := gb215) (o := .cells #[.int .i64 t210, .slice Ao38 t211.length co38] 28 (0, 0)) (by (with_reducible repeat (first | refine blk_drewN ?_ _ | refine blk_drew ?_ | refine blk_alloc ?_ _)); refine blk_far ?_ NB215_237.out _; (with_reducible repeat (first | refine blk_drewN ?_ _ | refine blk_drew ?_ | refine blk_alloc ?_ _)); refine blk_far ?_ NB215_237.out _; (with_reducible repeat (first | refine blk_drewN ?_ _ | refine blk_drew ?_ | refine blk_alloc ?_ _)); exact BK215.out) hb); have n9_ := Aside0.mk (blk_below (g := gb237) (o := .cells #[.int .i64 t232, .slice Ao125 t233.length co125] 28 (0, 0)) (by (with_reducible repeat (first | refine blk_drewN ?_ _ | refine blk_drew ?_ | refine blk_alloc ?_ _)); refine blk_put (cs := #[.int .i64 t232, .slice none 0 0]) ?_ 1 _ rfl; (with_reducible repeat (first | refine blk_drewN ?_ _ | refine blk_drew ?_ | refine blk_alloc ?_ _)); refine blk_put (cs := #[.int .i64 0, .slice none 0 0]) ?_ 0 _ rfl; (with_reducible repeat (first | refine blk_drewN ?_ _ | refine blk_drew ?_ | refine blk_alloc ?_ _)); exact BK237.out) hb); have n10_ := Aside0.mk (below_step (by repeat (first | (with_reducible first | exact HB.out | apply below_alloc | apply pw_below_drewN | apply below_drew1 | refine below_set ?_ GE193.out | refine below_set ?_ GE204.out | refine below_set ?_ GE209.out | refine below_set ?_ GE215.out | refine below_set ?_ GE237.out) | exact HB.out)) hb); clear HO_205001; clear HO_210001; clear HO_216001; clear HO231; clear HO235; clear BK193; clear BK204; clear BK209; clear BK215; clear BK237; clear HB; have HO_205001 := n0_; have HO_210001 := n1_; have HO_216001 := n2_; have HO231 := n3_; have HO235 := n4_; have BK193 := n5_; have BK204 := n6_; have BK209 := n7_; have BK215 := n8_; have BK237 := n9_; have HB := n10_; clear n0_ n1_ n2_ n3_ n4_ n5_ n6_ n7_ n8_ n9_ n10_; (try clear hb); (try clear hb2); (try clear hk); (try clear hi)))
                          go_meet
                          case rel => exact ⟨_, (true), (by first | rfl | (simp; done) | (simp [*]; done)), H', ⟨by have := HJ12.out; have := HJ61.out; first | omega | exact Nat.le_refl _⟩, ⟨by (try simp only [hl210001_61]); (with_reducible repeat (first | apply Kd.R_alloc | apply Kd.R_drewN | apply Kd.R_drew)); exact Kd.R_mono HO_205001.out (fun _ hk => ⟨hk.1.1.1, ⟨hk.1.1.2, hk.2⟩⟩)⟩, ⟨by (try simp only [hl210001_61]); (with_reducible repeat (first | apply Kd.R_alloc | apply Kd.R_drewN | apply Kd.R_drew)); exact Kd.R_mono HO_210001.out (fun _ hk => ⟨hk.1.1.1, ⟨hk.1.1.2, hk.2⟩⟩)⟩, ⟨by (try simp only [hl210001_61]); (with_reducible repeat (first | apply Kd.R_alloc | apply Kd.R_drewN | apply Kd.R_drew)); exact Kd.R_mono HO_216001.out (fun _ hk => ⟨hk.1.1.1, ⟨hk.1.1.2, hk.2⟩⟩)⟩, ⟨by (try simp only [hl210001_61]); (with_reducible repeat (first | apply Kd.R_alloc | apply Kd.R_drewN | apply Kd.R_drew)); exact Kd.R_mono HO235.out (fun _ hk => ⟨hk.1.1.1.2, ⟨hk.1.1.2, hk.1.2⟩⟩)⟩, ⟨by (try simp only [hl210001_61]); (with_reducible repeat (first | refine blk_drewN ?_ _ | refine blk_drew ?_ | refine blk_alloc ?_ _)); exact BK193.out⟩, ⟨by (try simp only [hl210001_61]); (with_reducible repeat (first | refine blk_drewN ?_ _ | refine blk_drew ?_ | refine blk_alloc ?_ _)); exact BK204.out⟩, ⟨by (try simp only [hl210001_61]); (with_reducible repeat (first | refine blk_drewN ?_ _ | refine blk_drew ?_ | refine blk_alloc ?_ _)); exact BK209.out⟩, ⟨by (try simp only [hl210001_61]); (with_reducible repeat (first | refine blk_drewN ?_ _ | refine blk_drew ?_ | refine blk_alloc ?_ _)); exact BK215.out⟩, ⟨by (try simp only [hl210001_61]); (with_reducible repeat (first | refine blk_drewN ?_ _ | refine blk_drew ?_ | refine blk_alloc ?_ _)); exact BK237.out⟩, ⟨by repeat (first | (with_reducible first | exact HB.out | apply below_alloc | apply pw_below_drewN | apply below_drew1 | refine below_set ?_ GE193.out | refine below_set ?_ GE204.out | refine below_set ?_ GE209.out | refine below_set ?_ GE215.out | refine below_set ?_ GE237.out) | exact HB.out)⟩⟩
                      case rest =>
                        clear HC105
                        try clear c1
                        try clear c2
                        try clear p2
                        try clear c3
                        try clear c4
                        try clear c5
                        try clear c5b0
                        try clear c6
                        try clear c7
                        try clear c8
                        try clear c9
                        try clear c10
                        try clear c11
                        try clear c12
                        try clear c13
                        try clear c14
                        try clear c22
                        try clear c28
                        try clear c29
                        try clear c34
                        try clear c35
                        try clear c36
                        try clear c40
                        try clear c41
                        try clear c42
                        try clear c43
                        try clear c45
                        try clear c46
                        try clear c49
                        try clear c50
                        try clear c51
                        try clear c53
                        try clear c54
                        try clear c57
                        try clear c60
                        try clear c67
                        try clear c68
                        try clear c69
                        try clear c72
                        try clear c72b0
                        try clear c72b1
                        try clear c74
                        try clear c75
                        try clear c76
                        try clear c77
                        try clear c79
                        try clear c80
                        try clear c83
                        try clear c84
                        try clear c85
                        try clear c87
                        try clear c88
                        try clear c91
                        try clear c94
                        try clear c94b0
                        try clear c95
                        try clear c96
                        try clear c97
                        try clear c102
                        try clear c102b0
                        try clear c102b1
                        try clear c106
                        try clear c107
                        try clear c108
                        try clear c113
                        try clear c114
                        try clear c120
                        try clear c121
                        try clear c122
                        try clear c123
                        try clear c127
                        try clear c128
                        try clear c129
                        try clear c130
                        try clear c131
                        try clear c133
                        try clear c134
                        try clear c135
                        try clear c138
                        try clear c139
                        try clear c140
                        try clear c141
                        try clear c143
                        try clear c144
                        try clear c145
                        try clear hcz100_0
                        try clear hcz100_1
                        try clear hcz109_0
                        try clear hcz109_1
                        try clear hcz111_0
                        try clear hcz111_1
                        try clear hcz115_0
                        try clear hcz115_1
                        try clear hcz124_0
                        try clear hcz124_1
                        try clear hcz132_0
                        try clear hcz132_1
                        try clear hcz136_0
                        try clear hcz136_1
                        try clear hcz142_0
                        try clear hcz142_1
                        try clear hcz146_0
                        try clear hcz146_1
                        try clear hcz15_0
                        try clear hcz15_1
                        try clear hcz17_0
                        try clear hcz17_1
                        try clear hcz23_0
                        try clear hcz23_1
                        try clear hcz25_0
                        try clear hcz25_1
                        try clear hcz30_0
                        try clear hcz30_1
                        try clear hcz37_0
                        try clear hcz37_1
                        try clear hcz44_0
                        try clear hcz44_1
                        try clear hcz47_0
                        try clear hcz47_1
                        try clear hcz52_0
                        try clear hcz52_1
                        try clear hcz55_0
                        try clear hcz55_1
                        try clear hcz70_0
                        try clear hcz70_1
                        try clear hcz78_0
                        try clear hcz78_1
                        try clear hcz7_0
                        try clear hcz7_1
                        try clear hcz81_0
                        try clear hcz81_1
                        try clear hcz86_0
                        try clear hcz86_1
                        try clear hcz89_0
                        try clear hcz89_1
                        try clear hcz98_0
                        try clear hcz98_1
                        try clear hfz100_0
                        try clear hfz100_1
                        try clear hfz109_0
                        try clear hfz109_1
                        try clear hfz111_0
                        try clear hfz111_1
                        try clear hfz115_0
                        try clear hfz115_1
                        try clear hfz124_0
                        try clear hfz124_1
                        try clear hfz132_0
                        try clear hfz132_1
                        try clear hfz136_0
                        try clear hfz136_1
                        try clear hfz142_0
                        try clear hfz142_1
                        try clear hfz146_0
                        try clear hfz146_1
                        try clear hfz15_0
                        try clear hfz15_1
                        try clear hfz17_0
                        try clear hfz17_1
                        try clear hfz23_0
                        try clear hfz23_1
                        try clear hfz25_0
                        try clear hfz25_1
                        try clear hfz30_0
                        try clear hfz30_1
                        try clear hfz37_0
                        try clear hfz37_1
                        try clear hfz44_0
                        try clear hfz44_1
                        try clear hfz47_0
                        try clear hfz47_1
                        try clear hfz52_0
                        try clear hfz52_1
                        try clear hfz55_0
                        try clear hfz55_1
                        try clear hfz70_0
                        try clear hfz70_1
                        try clear hfz78_0
                        try clear hfz78_1
                        try clear hfz7_0
                        try clear hfz7_1
                        try clear hfz81_0
                        try clear hfz81_1
                        try clear hfz86_0
                        try clear hfz86_1
                        try clear hfz89_0
                        try clear hfz89_1
                        try clear hfz98_0
                        try clear hfz98_1
                        try clear p2
                        obtain ⟨kq, x97_104, rfl, HA, HJ104, HO_205001, HO_210001, HO_216001, HO_238001, BK193, BK204, BK209, BK215, BK237, HB⟩ := hcut
                        have hl216001_104 := (Kd.R_reads' HO_216001.out).1
                        rw [hl216001_104] at HO_216001
                        (try simp only [hl216001_104])
                        (try simp only [hl216001_104] at BK193)
                        (try simp only [hl216001_104] at BK204)
                        (try simp only [hl216001_104] at BK209)
                        (try simp only [hl216001_104] at BK215)
                        (try simp only [hl216001_104] at BK237)
                        (try simp only [hl216001_104] at HO_205001)
                        (try simp only [hl216001_104] at HO_210001)
                        (try simp only [hl216001_104] at HO_238001)
                        cases kq with
                        | zero => exact absurd HA.out (by simp [laws_FnExactAddAnd.j2])
                        | succ kj104 =>
                          have H := HA.out
                          clear HA
                          simp only [laws_FnExactAddAnd.j2] at H
                          by_cases c148 : x97_104 = true
                          · subst c148
                            have H1 : (some false) = some r := by rw [if_pos rfl] at H; exact H
                            clear H
                            have H := H1
                            clear H1
                            obtain rfl := Option.some.inj H
                            go_wp2
                            go_ret
                            exact ⟨by first | rfl | (simp [errW_none, errW_some] <;> rfl) | (simp [*, errW_none, errW_some] <;> rfl), by repeat (first | (with_reducible first | exact HB.out | apply below_alloc | apply pw_below_drewN | apply below_drew1 | refine below_set ?_ GE193.out | refine below_set ?_ GE204.out | refine below_set ?_ GE209.out | refine below_set ?_ GE215.out | refine below_set ?_ GE237.out) | exact HB.out)⟩
                          · replace c148 := Bool.eq_false_iff.mpr c148
                            subst c148
                            have H1 : ((laws_heldCircuit.f kj104 t210 t226 1).bind fun t239 => (if t239 < 0 then (some false) else (if t239 = t225 then (some true) else (some false)))) = some r := by rw [if_neg (show ¬ (false = true) by decide)] at H; exact H
                            clear H
                            have H := H1
                            clear H1
                            replace H := Option.bind_eq_some_iff.mp H
                            obtain ⟨t239, A1490, H⟩ := H
                            replace H : (if t239 < 0 then (some false) else (if t239 = t225 then (some true) else (some false))) = some r := H
                            have A149 := Aside0.mk A1490
                            clear A1490
                            by_cases c150 : t239 < 0
                            · rw [if_pos c150] at H
                              have c150b0 : decide (t239 < 0) = true := decide_eq_true c150
                              (try (have c150b0z := c150b0; simp only [hl210001_61, hl216001_104] at c150b0z))
                              clear c150
                              obtain rfl := Option.some.inj H
                              have hnb151 := NB215_193.out
                              have hnc151 := NB193_215.out
                              have hnb152 := NB215_204.out
                              have hnc152 := NB204_215.out
                              have hnb153 := NB215_209.out
                              have hnc153 := NB209_215.out
                              have hnb154 := NB215_237.out
                              have hnc154 := NB237_215.out
                              have hcz155_0 : wc.cell? ⟨gb215, 0, none⟩ = some (.int .i64 t210) := (blk_cell BK215.out 0).trans rfl
                              have hcz155_1 : wc.cell? ⟨gb215, 1, none⟩ = some (.slice Ao38 t226.length co38) := (blk_cell BK215.out 1).trans rfl
                              have hfz155_0 := blk_frozen BK215.out 0
                              have hfz155_1 := blk_frozen BK215.out 1
                              go_wp2_with (first | ((with_reducible refine gate_callee (f := 12) rfl ?_); refine goesL_ (some 100) rfl rfl Try.func12 (by kernel_rfl) rfl #[.agg #[.int .i64 t210, .slice Ao38 t226.length co38], .int .i64 1] rfl (by (try simp only [List.map_toArray, List.map_cons, List.map_nil]); first | done | rfl | (simp only [List.length_drop, List.length_take]; rfl)) ?_; (with_reducible refine (laws_heldCircuit.calls kj104 t210 _ _ t226 1 t239 _ ?side1 ?side2 A149.out).mono ?_); (case side1 => repeat (first | exact (Kd.R_reads' HO_216001.out).2.2 | (with_reducible refine Kd.C_alloc ?_ _) | (with_reducible refine Kd.C_drewN ?_ _) | (with_reducible refine Kd.C_drew ?_))); (case side2 => exact (Kd.R_reads' HO_216001.out).2.1); rintro e w156 ⟨rfl, hb⟩; refine ⟨_, rfl, ?_⟩; have n0_ := Aside0.mk (Kd.R_below (by (with_reducible repeat (first | apply Kd.R_alloc | apply Kd.R_drewN | apply Kd.R_drew)); exact HO_205001.out) hb); have n1_ := Aside0.mk (Kd.R_below (by (with_reducible repeat (first | apply Kd.R_alloc | apply Kd.R_drewN | apply Kd.R_drew)); exact HO_210001.out) hb); have n2_ := Aside0.mk (Kd.R_below (by (with_reducible repeat (first | apply Kd.R_alloc | apply Kd.R_drewN | apply Kd.R_drew)); exact HO_216001.out) hb); have n3_ := Aside0.mk (Kd.R_below (by (with_reducible repeat (first | apply Kd.R_alloc | apply Kd.R_drewN | apply Kd.R_drew)); exact HO_238001.out) hb); have n4_ := Aside0.mk (blk_below (g := gb193) (o := .cells #[.int .i64 a0_0, .slice A0_1 l0_1.length c0_1] 24 (0, 0)) (by (with_reducible repeat (first | refine blk_drewN ?_ _ | refine blk_drew ?_ | refine blk_alloc ?_ _)); exact BK193.out) hb); have n5_ := Aside0.mk (blk_below (g := gb204) (o := .cells #[.int .i64 t199, .slice Ao24 t200.length co24] 28 (0, 0)) (by (with_reducible repeat (first | refine blk_drewN ?_ _ | refine blk_drew ?_ | refine blk_alloc ?_ _)); exact BK204.out) hb); have n6_ := Aside0.mk (blk_below (g := gb209) (o := .cells #[.int .i64 t205, .slice Ao31 t223.length co31] 28 (0, 0)) (by (with_reducible repeat (first | refine blk_drewN ?_ _ | refine blk_drew ?_ | refine blk_alloc ?_ _)); exact BK209.out) hb); have n7_ := Aside0.mk (blk_below (g := gb215) (o := .cells #[.int .i64 t210, .slice Ao38 t226.length co38] 28 (0, 0)) (by (with_reducible repeat (first | refine blk_drewN ?_ _ | refine blk_drew ?_ | refine blk_alloc ?_ _)); exact BK215.out) hb); have n8_ := Aside0.mk (blk_below (g := gb237) (o := .cells #[.int .i64 t232, .slice Ao125 t233.length co125] 28 (0, 0)) (by (with_reducible repeat (first | refine blk_drewN ?_ _ | refine blk_drew ?_ | refine blk_alloc ?_ _)); exact BK237.out) hb); have n9_ := Aside0.mk (below_step (by repeat (first | (with_reducible first | exact HB.out | apply below_alloc | apply pw_below_drewN | apply below_drew1 | refine below_set ?_ GE193.out | refine below_set ?_ GE204.out | refine below_set ?_ GE209.out | refine below_set ?_ GE215.out | refine below_set ?_ GE237.out) | exact HB.out)) hb); clear HO_205001; clear HO_210001; clear HO_216001; clear HO_238001; clear BK193; clear BK204; clear BK209; clear BK215; clear BK237; clear HB; have HO_205001 := n0_; have HO_210001 := n1_; have HO_216001 := n2_; have HO_238001 := n3_; have BK193 := n4_; have BK204 := n5_; have BK209 := n6_; have BK215 := n7_; have BK237 := n8_; have HB := n9_; clear n0_ n1_ n2_ n3_ n4_ n5_ n6_ n7_ n8_ n9_; (try clear hb); (try clear hb2); (try clear hk); (try clear hi)))
                              go_ret
                              exact ⟨by first | rfl | (simp [errW_none, errW_some] <;> rfl) | (simp [*, errW_none, errW_some] <;> rfl), by repeat (first | (with_reducible first | exact HB.out | apply below_alloc | apply pw_below_drewN | apply below_drew1 | refine below_set ?_ GE193.out | refine below_set ?_ GE204.out | refine below_set ?_ GE209.out | refine below_set ?_ GE215.out | refine below_set ?_ GE237.out) | exact HB.out)⟩
                            · rw [if_neg c150] at H
                              have c150b0 : decide (t239 < 0) = false := decide_eq_false c150
                              (try (have c150b0z := c150b0; simp only [hl210001_61, hl216001_104] at c150b0z))
                              clear c150
                              by_cases c157 : t239 = t225
                              · rw [if_pos c157] at H
                                have c157b0 : (t239 == t225) = true := beq_iff_eq.mpr c157
                                have c157b1 : (t239 != t225) = false := bne_eq_false_iff_eq.mpr c157
                                (try (have c157b0z := c157b0; simp only [hl210001_61, hl216001_104] at c157b0z))
                                clear c157
                                obtain rfl := Option.some.inj H
                                have hnb158 := NB215_193.out
                                have hnc158 := NB193_215.out
                                have hnb159 := NB215_204.out
                                have hnc159 := NB204_215.out
                                have hnb160 := NB215_209.out
                                have hnc160 := NB209_215.out
                                have hnb161 := NB215_237.out
                                have hnc161 := NB237_215.out
                                have hcz162_0 : wc.cell? ⟨gb215, 0, none⟩ = some (.int .i64 t210) := (blk_cell BK215.out 0).trans rfl
                                have hcz162_1 : wc.cell? ⟨gb215, 1, none⟩ = some (.slice Ao38 t226.length co38) := (blk_cell BK215.out 1).trans rfl
                                have hfz162_0 := blk_frozen BK215.out 0
                                have hfz162_1 := blk_frozen BK215.out 1
                                go_wp2_with (first | ((with_reducible refine gate_callee (f := 12) rfl ?_); refine goesL_ (some 100) rfl rfl Try.func12 (by kernel_rfl) rfl #[.agg #[.int .i64 t210, .slice Ao38 t226.length co38], .int .i64 1] rfl (by (try simp only [List.map_toArray, List.map_cons, List.map_nil]); first | done | rfl | (simp only [List.length_drop, List.length_take]; rfl)) ?_; (with_reducible refine (laws_heldCircuit.calls kj104 t210 _ _ t226 1 t239 _ ?side1 ?side2 A149.out).mono ?_); (case side1 => repeat (first | exact (Kd.R_reads' HO_216001.out).2.2 | (with_reducible refine Kd.C_alloc ?_ _) | (with_reducible refine Kd.C_drewN ?_ _) | (with_reducible refine Kd.C_drew ?_))); (case side2 => exact (Kd.R_reads' HO_216001.out).2.1); rintro e w163 ⟨rfl, hb⟩; refine ⟨_, rfl, ?_⟩; have n0_ := Aside0.mk (Kd.R_below (by (with_reducible repeat (first | apply Kd.R_alloc | apply Kd.R_drewN | apply Kd.R_drew)); exact HO_205001.out) hb); have n1_ := Aside0.mk (Kd.R_below (by (with_reducible repeat (first | apply Kd.R_alloc | apply Kd.R_drewN | apply Kd.R_drew)); exact HO_210001.out) hb); have n2_ := Aside0.mk (Kd.R_below (by (with_reducible repeat (first | apply Kd.R_alloc | apply Kd.R_drewN | apply Kd.R_drew)); exact HO_216001.out) hb); have n3_ := Aside0.mk (Kd.R_below (by (with_reducible repeat (first | apply Kd.R_alloc | apply Kd.R_drewN | apply Kd.R_drew)); exact HO_238001.out) hb); have n4_ := Aside0.mk (blk_below (g := gb193) (o := .cells #[.int .i64 a0_0, .slice A0_1 l0_1.length c0_1] 24 (0, 0)) (by (with_reducible repeat (first | refine blk_drewN ?_ _ | refine blk_drew ?_ | refine blk_alloc ?_ _)); exact BK193.out) hb); have n5_ := Aside0.mk (blk_below (g := gb204) (o := .cells #[.int .i64 t199, .slice Ao24 t200.length co24] 28 (0, 0)) (by (with_reducible repeat (first | refine blk_drewN ?_ _ | refine blk_drew ?_ | refine blk_alloc ?_ _)); exact BK204.out) hb); have n6_ := Aside0.mk (blk_below (g := gb209) (o := .cells #[.int .i64 t205, .slice Ao31 t223.length co31] 28 (0, 0)) (by (with_reducible repeat (first | refine blk_drewN ?_ _ | refine blk_drew ?_ | refine blk_alloc ?_ _)); exact BK209.out) hb); have n7_ := Aside0.mk (blk_below (g := gb215) (o := .cells #[.int .i64 t210, .slice Ao38 t226.length co38] 28 (0, 0)) (by (with_reducible repeat (first | refine blk_drewN ?_ _ | refine blk_drew ?_ | refine blk_alloc ?_ _)); exact BK215.out) hb); have n8_ := Aside0.mk (blk_below (g := gb237) (o := .cells #[.int .i64 t232, .slice Ao125 t233.length co125] 28 (0, 0)) (by (with_reducible repeat (first | refine blk_drewN ?_ _ | refine blk_drew ?_ | refine blk_alloc ?_ _)); exact BK237.out) hb); have n9_ := Aside0.mk (below_step (by repeat (first | (with_reducible first | exact HB.out | apply below_alloc | apply pw_below_drewN | apply below_drew1 | refine below_set ?_ GE193.out | refine below_set ?_ GE204.out | refine below_set ?_ GE209.out | refine below_set ?_ GE215.out | refine below_set ?_ GE237.out) | exact HB.out)) hb); clear HO_205001; clear HO_210001; clear HO_216001; clear HO_238001; clear BK193; clear BK204; clear BK209; clear BK215; clear BK237; clear HB; have HO_205001 := n0_; have HO_210001 := n1_; have HO_216001 := n2_; have HO_238001 := n3_; have BK193 := n4_; have BK204 := n5_; have BK209 := n6_; have BK215 := n7_; have BK237 := n8_; have HB := n9_; clear n0_ n1_ n2_ n3_ n4_ n5_ n6_ n7_ n8_ n9_; (try clear hb); (try clear hb2); (try clear hk); (try clear hi)))
                                go_ret
                                exact ⟨by first | rfl | (simp [errW_none, errW_some] <;> rfl) | (simp [*, errW_none, errW_some] <;> rfl), by repeat (first | (with_reducible first | exact HB.out | apply below_alloc | apply pw_below_drewN | apply below_drew1 | refine below_set ?_ GE193.out | refine below_set ?_ GE204.out | refine below_set ?_ GE209.out | refine below_set ?_ GE215.out | refine below_set ?_ GE237.out) | exact HB.out)⟩
                              · rw [if_neg c157] at H
                                have c157b0 : (t239 == t225) = false := beq_eq_false_iff_ne.mpr c157
                                have c157b1 : (t239 != t225) = true := bne_iff_ne.mpr c157
                                (try (have c157b0z := c157b0; simp only [hl210001_61, hl216001_104] at c157b0z))
                                obtain rfl := Option.some.inj H
                                have hnb164 := NB215_193.out
                                have hnc164 := NB193_215.out
                                have hnb165 := NB215_204.out
                                have hnc165 := NB204_215.out
                                have hnb166 := NB215_209.out
                                have hnc166 := NB209_215.out
                                have hnb167 := NB215_237.out
                                have hnc167 := NB237_215.out
                                have hcz168_0 : wc.cell? ⟨gb215, 0, none⟩ = some (.int .i64 t210) := (blk_cell BK215.out 0).trans rfl
                                have hcz168_1 : wc.cell? ⟨gb215, 1, none⟩ = some (.slice Ao38 t226.length co38) := (blk_cell BK215.out 1).trans rfl
                                have hfz168_0 := blk_frozen BK215.out 0
                                have hfz168_1 := blk_frozen BK215.out 1
                                go_wp2_with (first | ((with_reducible refine gate_callee (f := 12) rfl ?_); refine goesL_ (some 100) rfl rfl Try.func12 (by kernel_rfl) rfl #[.agg #[.int .i64 t210, .slice Ao38 t226.length co38], .int .i64 1] rfl (by (try simp only [List.map_toArray, List.map_cons, List.map_nil]); first | done | rfl | (simp only [List.length_drop, List.length_take]; rfl)) ?_; (with_reducible refine (laws_heldCircuit.calls kj104 t210 _ _ t226 1 t239 _ ?side1 ?side2 A149.out).mono ?_); (case side1 => repeat (first | exact (Kd.R_reads' HO_216001.out).2.2 | (with_reducible refine Kd.C_alloc ?_ _) | (with_reducible refine Kd.C_drewN ?_ _) | (with_reducible refine Kd.C_drew ?_))); (case side2 => exact (Kd.R_reads' HO_216001.out).2.1); rintro e w169 ⟨rfl, hb⟩; refine ⟨_, rfl, ?_⟩; have n0_ := Aside0.mk (Kd.R_below (by (with_reducible repeat (first | apply Kd.R_alloc | apply Kd.R_drewN | apply Kd.R_drew)); exact HO_205001.out) hb); have n1_ := Aside0.mk (Kd.R_below (by (with_reducible repeat (first | apply Kd.R_alloc | apply Kd.R_drewN | apply Kd.R_drew)); exact HO_210001.out) hb); have n2_ := Aside0.mk (Kd.R_below (by (with_reducible repeat (first | apply Kd.R_alloc | apply Kd.R_drewN | apply Kd.R_drew)); exact HO_216001.out) hb); have n3_ := Aside0.mk (Kd.R_below (by (with_reducible repeat (first | apply Kd.R_alloc | apply Kd.R_drewN | apply Kd.R_drew)); exact HO_238001.out) hb); have n4_ := Aside0.mk (blk_below (g := gb193) (o := .cells #[.int .i64 a0_0, .slice A0_1 l0_1.length c0_1] 24 (0, 0)) (by (with_reducible repeat (first | refine blk_drewN ?_ _ | refine blk_drew ?_ | refine blk_alloc ?_ _)); exact BK193.out) hb); have n5_ := Aside0.mk (blk_below (g := gb204) (o := .cells #[.int .i64 t199, .slice Ao24 t200.length co24] 28 (0, 0)) (by (with_reducible repeat (first | refine blk_drewN ?_ _ | refine blk_drew ?_ | refine blk_alloc ?_ _)); exact BK204.out) hb); have n6_ := Aside0.mk (blk_below (g := gb209) (o := .cells #[.int .i64 t205, .slice Ao31 t223.length co31] 28 (0, 0)) (by (with_reducible repeat (first | refine blk_drewN ?_ _ | refine blk_drew ?_ | refine blk_alloc ?_ _)); exact BK209.out) hb); have n7_ := Aside0.mk (blk_below (g := gb215) (o := .cells #[.int .i64 t210, .slice Ao38 t226.length co38] 28 (0, 0)) (by (with_reducible repeat (first | refine blk_drewN ?_ _ | refine blk_drew ?_ | refine blk_alloc ?_ _)); exact BK215.out) hb); have n8_ := Aside0.mk (blk_below (g := gb237) (o := .cells #[.int .i64 t232, .slice Ao125 t233.length co125] 28 (0, 0)) (by (with_reducible repeat (first | refine blk_drewN ?_ _ | refine blk_drew ?_ | refine blk_alloc ?_ _)); exact BK237.out) hb); have n9_ := Aside0.mk (below_step (by repeat (first | (with_reducible first | exact HB.out | apply below_alloc | apply pw_below_drewN | apply below_drew1 | refine below_set ?_ GE193.out | refine below_set ?_ GE204.out | refine below_set ?_ GE209.out | refine below_set ?_ GE215.out | refine below_set ?_ GE237.out) | exact HB.out)) hb); clear HO_205001; clear HO_210001; clear HO_216001; clear HO_238001; clear BK193; clear BK204; clear BK209; clear BK215; clear BK237; clear HB; have HO_205001 := n0_; have HO_210001 := n1_; have HO_216001 := n2_; have HO_238001 := n3_; have BK193 := n4_; have BK204 := n5_; have BK209 := n6_; have BK215 := n7_; have BK237 := n8_; have HB := n9_; clear n0_ n1_ n2_ n3_ n4_ n5_ n6_ n7_ n8_ n9_; (try clear hb); (try clear hb2); (try clear hk); (try clear hi)))
                                go_ret
                                exact ⟨by first | rfl | (simp [errW_none, errW_some] <;> rfl) | (simp [*, errW_none, errW_some] <;> rfl), by repeat (first | (with_reducible first | exact HB.out | apply below_alloc | apply pw_below_drewN | apply below_drew1 | refine below_set ?_ GE193.out | refine below_set ?_ GE204.out | refine below_set ?_ GE209.out | refine below_set ?_ GE215.out | refine below_set ?_ GE237.out) | exact HB.out)⟩
                    · rw [if_neg c102] at H
                      have c102b0 : (t227 == t225) = false := beq_eq_false_iff_ne.mpr c102
                      have c102b1 : (t227 != t225) = true := bne_iff_ne.mpr c102
                      (try (have c102b0z := c102b0; simp only [hl210001_61] at c102b0z))
                      obtain rfl := Option.some.inj H
                      have hnb170 := NB215_193.out
                      have hnc170 := NB193_215.out
                      have hnb171 := NB215_204.out
                      have hnc171 := NB204_215.out
                      have hnb172 := NB215_209.out
                      have hnc172 := NB209_215.out
                      have hcz173_0 : wc.cell? ⟨gb215, 0, none⟩ = some (.int .i64 t210) := (blk_cell BK215.out 0).trans rfl
                      have hcz173_1 : wc.cell? ⟨gb215, 1, none⟩ = some (.slice Ao38 t211.length co38) := (blk_cell BK215.out 1).trans rfl
                      have hfz173_0 := blk_frozen BK215.out 0
                      have hfz173_1 := blk_frozen BK215.out 1
                      go_wp2_with (first | ((with_reducible refine gate_callee (f := 11) rfl ?_); refine goesL_ (some 72) rfl rfl Try.func11 (by kernel_rfl) rfl #[.agg #[.int .i64 t210, .slice Ao38 t211.length co38], .int .i64 1] rfl (by (try simp only [List.map_toArray, List.map_cons, List.map_nil]); first | done | rfl | (simp only [List.length_drop, List.length_take]; rfl)) ?_; (with_reducible refine (laws_markCircuit.calls kj61 t210 (fun k_ => some k_ = (.slice Ao38 t211.length co38 : Value).ownBlock) (.slice Ao38 t211.length co38) t211 1 t225 t226 w _ ?side1 ?side2 A92.out).mono ?_); (case side1 => repeat (first | (with_reducible first | exact HB.out | apply below_alloc | apply pw_below_drewN | apply below_drew1 | refine below_set ?_ GE193.out | refine below_set ?_ GE204.out | refine below_set ?_ GE209.out | refine below_set ?_ GE215.out) | exact HB.out)); (case side2 => exact Kd.R_tight rfl HO_216001.out); rintro e w174 ⟨rfl, hy0, hb, hkp⟩; refine ⟨_, rfl, ?_⟩; have n0_ := Aside0.mk (Kd.R_mono (ok' := fun k_ => some k_ ≠ (.slice Ao31 t223.length co31 : Value).ownBlock ∧ some k_ ≠ (.slice Ao38 t211.length co38 : Value).ownBlock) (Kd.R_keptB (HO_205001.out) hkp (fun k_ hk_ hs_ => (hk_.2) hs_)) (fun k_ hk_ => ⟨hk_.1.1, hk_.1.2⟩)); have n1_ := Aside0.mk (Kd.R_mono (ok' := fun k_ => some k_ ≠ (.slice Ao24 t200.length co24 : Value).ownBlock ∧ some k_ ≠ (.slice Ao38 t211.length co38 : Value).ownBlock) (Kd.R_keptB (HO_210001.out) hkp (fun k_ hk_ hs_ => (hk_.2) hs_)) (fun k_ hk_ => ⟨hk_.1.1, hk_.1.2⟩)); have n2_ := Aside0.mk (Kd.R_reok rfl hy0 (fun k_ e_ => HO_216001.out.1 k_ e_)); have n3_ := Aside0.mk (blk_kept (by (with_reducible repeat (first | refine blk_drewN ?_ _ | refine blk_drew ?_ | refine blk_alloc ?_ _)); exact BK193.out) hkp (fun hs_ => (fun e_ => (Kd.R_ne HO_216001.out BK193.out (by decide)) e_) hs_)); have n4_ := Aside0.mk (blk_kept (by (with_reducible repeat (first | refine blk_drewN ?_ _ | refine blk_drew ?_ | refine blk_alloc ?_ _)); exact BK204.out) hkp (fun hs_ => (fun e_ => (Kd.R_ne HO_216001.out BK204.out (by decide)) e_) hs_)); have n5_ := Aside0.mk (blk_kept (by (with_reducible repeat (first | refine blk_drewN ?_ _ | refine blk_drew ?_ | refine blk_alloc ?_ _)); exact BK209.out) hkp (fun hs_ => (fun e_ => (Kd.R_ne HO_216001.out BK209.out (by decide)) e_) hs_)); have n6_ := Aside0.mk (blk_kept (by (with_reducible repeat (first | refine blk_drewN ?_ _ | refine blk_drew ?_ | refine blk_alloc ?_ _)); exact BK215.out) hkp (fun hs_ => (fun e_ => (Kd.R_ne HO_216001.out BK215.out (by decide)) e_) hs_)); have n7_ := Aside0.mk (hb); clear HO_205001; clear HO_210001; clear HO_216001; clear BK193; clear BK204; clear BK209; clear BK215; clear HB; have HO_205001 := n0_; have HO_210001 := n1_; have HO_216001 := n2_; have BK193 := n3_; have BK204 := n4_; have BK209 := n5_; have BK215 := n6_; have HB := n7_; clear n0_ n1_ n2_ n3_ n4_ n5_ n6_ n7_; (try clear hb); (try clear hkp); (try clear hy0); have hcz175_0 : w174.cell? ⟨gb215, 0, none⟩ = some (.int .i64 t210) := (blk_cell BK215.out 0).trans rfl; have hcz175_1 : w174.cell? ⟨gb215, 1, none⟩ = some (.slice Ao38 t211.length co38) := (blk_cell BK215.out 1).trans rfl; have hfz175_0 := blk_frozen BK215.out 0; have hfz175_1 := blk_frozen BK215.out 1) | ((with_reducible refine gate_callee (f := 12) rfl ?_); refine goesL_ (some 75) rfl rfl Try.func12 (by kernel_rfl) rfl #[.agg #[.int .i64 t210, .slice Ao38 t226.length co38], .int .i64 1] rfl (by (try simp only [List.map_toArray, List.map_cons, List.map_nil]); first | done | (rw [show t226.length = t211.length from (Kd.R_reads' HO_216001.out).1.symm] <;> rfl) | rfl | (simp only [List.length_drop, List.length_take]; rfl)) ?_; (with_reducible refine (laws_heldCircuit.calls kj61 t210 _ _ t226 1 t227 _ ?side1 ?side2 A93.out).mono ?_); (case side1 => repeat (first | exact (Kd.R_reads' HO_216001.out).2.2 | (with_reducible refine Kd.C_alloc ?_ _) | (with_reducible refine Kd.C_drewN ?_ _) | (with_reducible refine Kd.C_drew ?_))); (case side2 => rw [show t226.length = t211.length from (Kd.R_reads' HO_216001.out).1.symm]; exact (Kd.R_reads' HO_216001.out).2.1); rintro e w176 ⟨rfl, hb⟩; refine ⟨_, rfl, ?_⟩; have n0_ := Aside0.mk (Kd.R_below (by (with_reducible repeat (first | apply Kd.R_alloc | apply Kd.R_drewN | apply Kd.R_drew)); exact HO_205001.out) hb); have n1_ := Aside0.mk (Kd.R_below (by (with_reducible repeat (first | apply Kd.R_alloc | apply Kd.R_drewN | apply Kd.R_drew)); exact HO_210001.out) hb); have n2_ := Aside0.mk (Kd.R_below (by (with_reducible repeat (first | apply Kd.R_alloc | apply Kd.R_drewN | apply Kd.R_drew)); exact HO_216001.out) hb); have n3_ := Aside0.mk (blk_below (g := gb193) (o := .cells #[.int .i64 a0_0, .slice A0_1 l0_1.length c0_1] 24 (0, 0)) (by (with_reducible repeat (first | refine blk_drewN ?_ _ | refine blk_drew ?_ | refine blk_alloc ?_ _)); exact BK193.out) hb); have n4_ := Aside0.mk (blk_below (g := gb204) (o := .cells #[.int .i64 t199, .slice Ao24 t200.length co24] 28 (0, 0)) (by (with_reducible repeat (first | refine blk_drewN ?_ _ | refine blk_drew ?_ | refine blk_alloc ?_ _)); exact BK204.out) hb); have n5_ := Aside0.mk (blk_below (g := gb209) (o := .cells #[.int .i64 t205, .slice Ao31 t223.length co31] 28 (0, 0)) (by (with_reducible repeat (first | refine blk_drewN ?_ _ | refine blk_drew ?_ | refine blk_alloc ?_ _)); exact BK209.out) hb); have n6_ := Aside0.mk (blk_below (g := gb215) (o := .cells #[.int .i64 t210, .slice Ao38 t211.length co38] 28 (0, 0)) (by (with_reducible repeat (first | refine blk_drewN ?_ _ | refine blk_drew ?_ | refine blk_alloc ?_ _)); exact BK215.out) hb); have n7_ := Aside0.mk (below_step (by repeat (first | (with_reducible first | exact HB.out | apply below_alloc | apply pw_below_drewN | apply below_drew1 | refine below_set ?_ GE193.out | refine below_set ?_ GE204.out | refine below_set ?_ GE209.out | refine below_set ?_ GE215.out) | exact HB.out)) hb); clear HO_205001; clear HO_210001; clear HO_216001; clear BK193; clear BK204; clear BK209; clear BK215; clear HB; have HO_205001 := n0_; have HO_210001 := n1_; have HO_216001 := n2_; have BK193 := n3_; have BK204 := n4_; have BK209 := n5_; have BK215 := n6_; have HB := n7_; clear n0_ n1_ n2_ n3_ n4_ n5_ n6_ n7_; (try clear hb); (try clear hb2); (try clear hk); (try clear hi)))
                      go_ret
                      exact ⟨by first | rfl | (simp [errW_none, errW_some] <;> rfl) | (simp [*, errW_none, errW_some] <;> rfl), by repeat (first | (with_reducible first | exact HB.out | apply below_alloc | apply pw_below_drewN | apply below_drew1 | refine below_set ?_ GE193.out | refine below_set ?_ GE204.out | refine below_set ?_ GE209.out | refine below_set ?_ GE215.out) | exact HB.out)⟩
          · replace c60 := Bool.eq_false_iff.mpr c60
            subst c60
            have H1 : (some false) = some r := by rw [if_neg (show ¬ (false = true) by decide)] at H; exact H
            clear H
            have H := H1
            clear H1
            obtain rfl := Option.some.inj H
            try go_wp2
            have n0_ := Aside0.mk (Kd.R_drew HO_205001.out)
            have n1_ := Aside0.mk (Kd.R_drew HO_210001.out)
            have n2_ := Aside0.mk (Kd.R_drew HO_216001.out)
            have n3_ := Aside0.mk (blk_drew BK193.out)
            have n4_ := Aside0.mk (blk_drew BK204.out)
            have n5_ := Aside0.mk (blk_drew BK209.out)
            have n6_ := Aside0.mk (blk_drew BK215.out)
            have n7_ := Aside0.mk (below_drew1 HB.out)
            clear HO_205001
            clear HO_210001
            clear HO_216001
            clear BK193
            clear BK204
            clear BK209
            clear BK215
            clear HB
            have HO_205001 := n0_
            have HO_210001 := n1_
            have HO_216001 := n2_
            have BK193 := n3_
            have BK204 := n4_
            have BK209 := n5_
            have BK215 := n6_
            have HB := n7_
            clear n0_ n1_ n2_ n3_ n4_ n5_ n6_ n7_
            refine start_ (n := 5) (S := fun w' => w'.cell? ⟨gb209, 0, none⟩ = some (.int .i64 t205) ∧ w'.cell? ⟨gb209, 1, none⟩ = some (.slice Ao31 t206.length co31) ∧ w'.cell? ⟨gb193, 0, none⟩ = some (.int .i64 a0_0) ∧ w'.cell? ⟨gb193, 1, none⟩ = some (.slice A0_1 l0_1.length c0_1)) (ds := []) #[false, false, false, false, false] (by kernel_rfl) rfl rfl ⟨(blk_cell BK209.out 0).trans rfl, (blk_cell BK209.out 1).trans rfl, (blk_cell BK193.out 0).trans rfl, (blk_cell BK193.out 1).trans rfl⟩ (fun hHeld => ?_)
            generalize wc.drew = w177 at HO_205001 HO_210001 HO_216001 BK193 BK204 BK209 BK215 HB hHeld ⊢
            refine take_ (i := 0) (N := some 49) (v := ?_) (a' := ?_) #[true, false, false, false, false] rfl rfl (by kernel_rfl) (fun _ _ _ h => h) (Or.inl ⟨by rfl, ?_⟩) hHeld ?_ ?_
            rotate_left
            · rintro w' ⟨s0, s1, s2, s3⟩
              go_simp
              with_reducible rfl
            rotate_left
            · simp only [Act.put, List.setIfInBounds_toArray, List.set_cons_zero, List.set_cons_succ, i64_w, i32_w]
              rfl
            refine take_ (i := 1) (N := some 50) (v := ?_) (a' := ?_) #[true, true, false, false, false] rfl rfl (by kernel_rfl) (fun _ _ _ h => h) (Or.inl ⟨by rfl, ?_⟩) hHeld ?_ ?_
            rotate_left
            · rintro w' ⟨s0, s1, s2, s3⟩
              go_simp
              with_reducible rfl
            rotate_left
            · simp only [Act.put, List.setIfInBounds_toArray, List.set_cons_zero, List.set_cons_succ, i64_w, i32_w]
              rfl
            refine one_ (i := 2) (N := some 51) #[true, true, true, false, false] rfl rfl (by kernel_rfl) (by decide) (fun K hK => ?_)
            refine goes_ Try.func8 (by kernel_rfl) rfl #[.agg #[.int .i64 a0_0, .slice A0_1 l0_1.length c0_1]] (by rfl) rfl rfl (by (try simp only [List.map_toArray, List.map_cons, List.map_nil]); first | done | rfl | (simp only [List.length_drop, List.length_take]; rfl)) ?_
            with_reducible refine (laws_toCircuit.calls kj12 a0_0 _ _ l0_1 t217 t218 _ ?side1 ?side2 A58.out).mono ?_
            (case side1 => repeat (first | exact (Kd.C_below HR0_1.out HB.out) | (with_reducible refine Kd.C_alloc ?_ _) | (with_reducible refine Kd.C_drewN ?_ _) | (with_reducible refine Kd.C_drew ?_)))
            (case side2 => exact HC0_1.out)
            rintro e w178 ⟨v219, rfl, ho0, hb⟩
            refine ⟨_, rfl, ?_⟩
            have n0_ := Aside0.mk (Kd.R_elder' (by (with_reducible repeat (first | apply Kd.R_alloc | apply Kd.R_drewN | apply Kd.R_drew)); exact HO_205001.out) (Kd.R_base ho0) hb)
            have n1_ := Aside0.mk (Kd.R_elder' (by (with_reducible repeat (first | apply Kd.R_alloc | apply Kd.R_drewN | apply Kd.R_drew)); exact HO_210001.out) (Kd.R_base ho0) hb)
            have n2_ := Aside0.mk (Kd.R_elder' (by (with_reducible repeat (first | apply Kd.R_alloc | apply Kd.R_drewN | apply Kd.R_drew)); exact HO_216001.out) (Kd.R_base ho0) hb)
            have n3_ := Aside0.mk (Kd.R_lower (Kd.R_new' (Kd.R_new' (Kd.R_new' ho0 (Kd.R_lt (by (with_reducible repeat (first | apply Kd.R_alloc | apply Kd.R_drewN | apply Kd.R_drew)); exact HO_205001.out))) (Kd.R_lt (by (with_reducible repeat (first | apply Kd.R_alloc | apply Kd.R_drewN | apply Kd.R_drew)); exact HO_210001.out))) (Kd.R_lt (by (with_reducible repeat (first | apply Kd.R_alloc | apply Kd.R_drewN | apply Kd.R_drew)); exact HO_216001.out))) (below_size (by repeat (first | (with_reducible first | exact HB.out | apply below_alloc | apply pw_below_drewN | apply below_drew1 | refine below_set ?_ GE193.out | refine below_set ?_ GE204.out | refine below_set ?_ GE209.out | refine below_set ?_ GE215.out) | exact HB.out))))
            have n4_ := Aside0.mk (blk_below (g := gb193) (o := .cells #[.int .i64 a0_0, .slice A0_1 l0_1.length c0_1] 24 (0, 0)) (by (with_reducible repeat (first | refine blk_drewN ?_ _ | refine blk_drew ?_ | refine blk_alloc ?_ _)); exact BK193.out) hb)
            have n5_ := Aside0.mk (blk_below (g := gb204) (o := .cells #[.int .i64 t199, .slice Ao24 t200.length co24] 28 (0, 0)) (by (with_reducible repeat (first | refine blk_drewN ?_ _ | refine blk_drew ?_ | refine blk_alloc ?_ _)); exact BK204.out) hb)
            have n6_ := Aside0.mk (blk_below (g := gb209) (o := .cells #[.int .i64 t205, .slice Ao31 t206.length co31] 28 (0, 0)) (by (with_reducible repeat (first | refine blk_drewN ?_ _ | refine blk_drew ?_ | refine blk_alloc ?_ _)); exact BK209.out) hb)
            have n7_ := Aside0.mk (blk_below (g := gb215) (o := .cells #[.int .i64 t210, .slice Ao38 t211.length co38] 28 (0, 0)) (by (with_reducible repeat (first | refine blk_drewN ?_ _ | refine blk_drew ?_ | refine blk_alloc ?_ _)); exact BK215.out) hb)
            have n8_ := Aside0.mk (below_step (by repeat (first | (with_reducible first | exact HB.out | apply below_alloc | apply pw_below_drewN | apply below_drew1 | refine below_set ?_ GE193.out | refine below_set ?_ GE204.out | refine below_set ?_ GE209.out | refine below_set ?_ GE215.out) | exact HB.out)) hb)
            clear HO_205001
            clear HO_210001
            clear HO_216001
            clear BK193
            clear BK204
            clear BK209
            clear BK215
            clear HB
            have HO_205001 := n0_
            have HO_210001 := n1_
            have HO_216001 := n2_
            have HO220 := n3_
            have BK193 := n4_
            have BK204 := n5_
            have BK209 := n6_
            have BK215 := n7_
            have HB := n8_
            clear n0_ n1_ n2_ n3_ n4_ n5_ n6_ n7_ n8_
            (try clear hb)
            (try clear hb2)
            (try clear hk)
            (try clear hi)
            (try clear ho0)
            obtain ⟨Ao179, co179, eo179⟩ := Kd.R_slice HO220.out
            (first | subst eo179 | (injection eo179 with f1_ f2_ f3_; have f4_ := f1_.symm; have f5_ := f3_.symm; clear f1_ f2_ f3_; subst f4_; subst f5_))
            refine hK.out _ _ ⟨(blk_cell BK209.out 0).trans rfl, (blk_cell BK209.out 1).trans rfl, (blk_cell BK193.out 0).trans rfl, (blk_cell BK193.out 1).trans rfl⟩ (fun hHeld => ?_)
            clear hK K
            refine norm_ (a' := ?_) ?_ ?_
            rotate_left
            · show Act.put _ (some 51) _ = _
              simp only [Act.put, List.setIfInBounds_toArray, List.set_cons_zero, List.set_cons_succ, i64_w, i32_w]
              rfl
            refine one_ (i := 3) (N := some 52) #[true, true, true, true, false] rfl rfl (by kernel_rfl) (by decide) (fun K hK => ?_)
            refine goes_ Try.func10 (by kernel_rfl) rfl #[.agg #[.int .i64 t205, .slice Ao31 t206.length co31], .agg #[.int .i64 t217, .slice Ao179 t218.length co179]] (by rfl) rfl rfl (by (try simp only [List.map_toArray, List.map_cons, List.map_nil]); first | done | rfl | (simp only [List.length_drop, List.length_take]; rfl)) ?_
            with_reducible refine (laws_eqCircuit.calls kj12 t205 _ _ t206 t217 _ _ t218 false _ ?side1 ?side2 ?side3 ?side4 A59.out).mono ?_
            (case side1 => repeat (first | exact (Kd.R_reads' HO_210001.out).2.2 | (with_reducible refine Kd.C_alloc ?_ _) | (with_reducible refine Kd.C_drewN ?_ _) | (with_reducible refine Kd.C_drew ?_)))
            (case side2 => exact (Kd.R_reads' HO_210001.out).2.1)
            (case side3 => repeat (first | exact (Kd.R_reads' HO220.out).2.2 | (with_reducible refine Kd.C_alloc ?_ _) | (with_reducible refine Kd.C_drewN ?_ _) | (with_reducible refine Kd.C_drew ?_)))
            (case side4 => exact (Kd.R_reads' HO220.out).2.1)
            rintro e w180 ⟨rfl, hb⟩
            refine ⟨_, rfl, ?_⟩
            have n0_ := Aside0.mk (Kd.R_below (by (with_reducible repeat (first | apply Kd.R_alloc | apply Kd.R_drewN | apply Kd.R_drew)); exact HO_205001.out) hb)
            have n1_ := Aside0.mk (Kd.R_below (by (with_reducible repeat (first | apply Kd.R_alloc | apply Kd.R_drewN | apply Kd.R_drew)); exact HO_210001.out) hb)
            have n2_ := Aside0.mk (Kd.R_below (by (with_reducible repeat (first | apply Kd.R_alloc | apply Kd.R_drewN | apply Kd.R_drew)); exact HO_216001.out) hb)
            have n3_ := Aside0.mk (Kd.R_below (by (with_reducible repeat (first | apply Kd.R_alloc | apply Kd.R_drewN | apply Kd.R_drew)); exact HO220.out) hb)
            have n4_ := Aside0.mk (blk_below (g := gb193) (o := .cells #[.int .i64 a0_0, .slice A0_1 l0_1.length c0_1] 24 (0, 0)) (by (with_reducible repeat (first | refine blk_drewN ?_ _ | refine blk_drew ?_ | refine blk_alloc ?_ _)); exact BK193.out) hb)
            have n5_ := Aside0.mk (blk_below (g := gb204) (o := .cells #[.int .i64 t199, .slice Ao24 t200.length co24] 28 (0, 0)) (by (with_reducible repeat (first | refine blk_drewN ?_ _ | refine blk_drew ?_ | refine blk_alloc ?_ _)); exact BK204.out) hb)
            have n6_ := Aside0.mk (blk_below (g := gb209) (o := .cells #[.int .i64 t205, .slice Ao31 t206.length co31] 28 (0, 0)) (by (with_reducible repeat (first | refine blk_drewN ?_ _ | refine blk_drew ?_ | refine blk_alloc ?_ _)); exact BK209.out) hb)
            have n7_ := Aside0.mk (blk_below (g := gb215) (o := .cells #[.int .i64 t210, .slice Ao38 t211.length co38] 28 (0, 0)) (by (with_reducible repeat (first | refine blk_drewN ?_ _ | refine blk_drew ?_ | refine blk_alloc ?_ _)); exact BK215.out) hb)
            have n8_ := Aside0.mk (below_step (by repeat (first | (with_reducible first | exact HB.out | apply below_alloc | apply pw_below_drewN | apply below_drew1 | refine below_set ?_ GE193.out | refine below_set ?_ GE204.out | refine below_set ?_ GE209.out | refine below_set ?_ GE215.out) | exact HB.out)) hb)
            clear HO_205001
            clear HO_210001
            clear HO_216001
            clear HO220
            clear BK193
            clear BK204
            clear BK209
            clear BK215
            clear HB
            have HO_205001 := n0_
            have HO_210001 := n1_
            have HO_216001 := n2_
            have HO220 := n3_
            have BK193 := n4_
            have BK204 := n5_
            have BK209 := n6_
            have BK215 := n7_
            have HB := n8_
            clear n0_ n1_ n2_ n3_ n4_ n5_ n6_ n7_ n8_
            (try clear hb)
            (try clear hb2)
            (try clear hk)
            (try clear hi)
            refine hK.out _ _ ⟨(blk_cell BK209.out 0).trans rfl, (blk_cell BK209.out 1).trans rfl, (blk_cell BK193.out 0).trans rfl, (blk_cell BK193.out 1).trans rfl⟩ (fun hHeld => ?_)
            clear hK K
            refine norm_ (a' := ?_) ?_ ?_
            rotate_left
            · show Act.put _ (some 52) _ = _
              simp only [Act.put, List.setIfInBounds_toArray, List.set_cons_zero, List.set_cons_succ, i64_w, i32_w]
              rfl
            refine pure_ (i := 4) (N := some 53) (v := ?_) (a' := ?_) #[true, true, true, true, true] rfl rfl (by kernel_rfl) (fun _ _ _ h => h) (Or.inl ⟨by rfl, ?_⟩) ?_ ?_
            rotate_left
            · intro w'
              go_simp
              with_reducible rfl
            rotate_left
            · simp only [Act.put, List.setIfInBounds_toArray, List.set_cons_zero, List.set_cons_succ, i64_w, i32_w]
              rfl
            refine done_ (by kernel_rfl) ?_
            try go_wp2
            go_ret
            exact ⟨by first | rfl | (simp [errW_none, errW_some] <;> rfl) | (simp [*, errW_none, errW_some] <;> rfl), by repeat (first | (with_reducible first | exact HB.out | apply below_alloc | apply pw_below_drewN | apply below_drew1 | refine below_set ?_ GE193.out | refine below_set ?_ GE204.out | refine below_set ?_ GE209.out | refine below_set ?_ GE215.out) | exact HB.out)⟩
def laws_FnExactAddAnd.Pure : Prop := ∀ (a0_0 : Int) (l0_1 : List (S63)) (a1 : Int) (a2 : Int), (Lit.int .i64 a0_0).wf = true → l0_1.length ≤ 9223372036854775807 → (∀ x ∈ l0_1, ((Lit.int .i64 x.f0).wf = true ∧ (Lit.int .i64 x.f1).wf = true)) → (Lit.int .i64 a1).wf = true → (Lit.int .i64 a2).wf = true → ∃ k, laws_FnExactAddAnd.f k a0_0 l0_1 a1 a2 = some true

end Go.Proofs.Ythphgkhmeobadaa.XFnExactAddAnd
