/- Printed by a program of this session out of the translation: the Go functions that a law uses as plain Lean functions, with the proofs of their calls, or the law's row.
Conditions: those that each theorem states. -/
import Derived.Test.YthphgkhmeobadaaXFnExactAddOrx0
import Derived.Test.YthphgkhmeobadaaXFnExactAddOrx1
import Derived.Test.YthphgkhmeobadaaXFnExactAddOrx2
import Derived.Test.YthphgkhmeobadaaXFnExactAddOrx5
import Derived.Test.YthphgkhmeobadaaXFnExactAddOrx9
namespace Go.Proofs.Ythphgkhmeobadaa.XFnExactAddOr
open Go.RowKit Go.Proofs.YthphgkhmeobadaaW.PrintWords Go.Proofs.YthphgkhmeobadaaW.PrintLast Go.Proofs.YthphgkhmeobadaaW.PrintMore
attribute [local go_sem] max2_int min2_int max_two min_two max_three min_three max_four min_four   -- for this text's walks alone
set_option linter.unusedVariables false
set_option linter.unusedSimpArgs false

/-! ### laws_FnExactAddOr: function 4 -/
mutual
def laws_FnExactAddOr.j0 : Nat → Int → Int → Int → Int → Bool → Int → List (S63) → Int → List (S57) → Int → List (S57) → Int → List (S57) → Option (Bool)
  | 0, _, _, _, _, _, _, _, _, _, _, _, _, _ => none
  | k + 1, x1, x2, x9, x12, x48, x205000, x205001, x216000, x216001, x221000, x221001, x227000, x227001 => if x48 = true then (some false) else ((laws_toCircuit.f k x205000 x205001).bind fun bt228 => ((laws_eqCircuit.f k x221000 x221001 bt228.1 bt228.2).bind fun t232 => (if t232 = true then ((laws_markCircuit.f k x221000 x221001 1).bind fun bt233 => (if bt233.1 < 0 then (laws_FnExactAddOr.j1 k x1 x2 x9 true x205000 x205001 x216000 x216001 x227000 x227001) else ((laws_eqCircuit.f k x227000 x227001 x216000 x216001).bind fun t235 => (if t235 = true then (laws_FnExactAddOr.j1 k x1 x2 x9 (x12 != x9) x205000 x205001 x216000 x216001 x227000 x227001) else (laws_FnExactAddOr.j1 k x1 x2 x9 true x205000 x205001 x216000 x216001 x227000 x227001))))) else (some false))))
def laws_FnExactAddOr.j1 : Nat → Int → Int → Int → Bool → Int → List (S63) → Int → List (S57) → Int → List (S57) → Option (Bool)
  | 0, _, _, _, _, _, _, _, _, _, _ => none
  | k + 1, x1, x2, x9, x69, x205000, x205001, x216000, x216001, x227000, x227001 => if x69 = true then (some false) else ((laws_markCircuit.f k x227000 x227001 1).bind fun bt236 => ((laws_heldCircuit.f k x227000 bt236.2 1).bind fun t238 => (if t238 < 0 then (some false) else (if t238 = bt236.1 then ((laws_toCircuit.f k x205000 x205001).bind fun bt239 => ((impl_AddOr.f k bt239.1 bt239.2 x1 x2).bind fun bt243 => ((laws_eqCircuit.f k bt243.1 bt243.2.1 x216000 x216001).bind fun t249 => (if t249 = true then (laws_FnExactAddOr.j2 k bt236.1 (bt243.2.2 != x9) x227000 bt236.2) else (laws_FnExactAddOr.j2 k bt236.1 true x227000 bt236.2))))) else (some false)))))
def laws_FnExactAddOr.j2 : Nat → Int → Bool → Int → List (S57) → Option (Bool)
  | 0, _, _, _, _ => none
  | k + 1, x14, x97, x227000, x227001 => if x97 = true then (some false) else ((laws_heldCircuit.f k x227000 x227001 1).bind fun t250 => (if t250 < 0 then (some false) else (if t250 = x14 then (some true) else (some false))))
end
def laws_FnExactAddOr.f (k : Nat) (a0_0 : Int) (l0_1 : List (S63)) (a1 : Int) (a2 : Int) : Option (Bool) := (laws_szCircuit.f a0_0 l0_1 1048576).bind fun t205 => (if t205 < 0 then (some true) else ((laws_toCircuit.f k a0_0 l0_1).bind fun bt206 => ((spec_AddOr.f k bt206.1 bt206.2 a1 a2).bind fun bt210 => ((laws_toCircuit.f k a0_0 l0_1).bind fun bt216 => ((impl_AddOr.f k bt216.1 bt216.2 a1 a2).bind fun bt221 => ((laws_eqCircuit.f k bt221.1 bt221.2.1 bt210.1 bt210.2.1).bind fun t227 => (if t227 = true then (laws_FnExactAddOr.j0 k a1 a2 bt210.2.2 bt221.2.2 (bt221.2.2 != bt210.2.2) a0_0 l0_1 bt210.1 bt210.2.1 bt216.1 bt216.2 bt221.1 bt221.2.1) else (laws_FnExactAddOr.j0 k a1 a2 bt210.2.2 bt221.2.2 true a0_0 l0_1 bt210.1 bt210.2.1 bt216.1 bt216.2 bt221.1 bt221.2.1))))))))
theorem laws_FnExactAddOr.mono_l : ∀ k, (∀ y0 y1 y2 y3 y4 y5 y6 y7 y8 y9 y10 y11 y12, LeO (laws_FnExactAddOr.j0 k y0 y1 y2 y3 y4 y5 y6 y7 y8 y9 y10 y11 y12) (laws_FnExactAddOr.j0 (k + 1) y0 y1 y2 y3 y4 y5 y6 y7 y8 y9 y10 y11 y12)) ∧ (∀ y0 y1 y2 y3 y4 y5 y6 y7 y8 y9, LeO (laws_FnExactAddOr.j1 k y0 y1 y2 y3 y4 y5 y6 y7 y8 y9) (laws_FnExactAddOr.j1 (k + 1) y0 y1 y2 y3 y4 y5 y6 y7 y8 y9)) ∧ (∀ y0 y1 y2 y3, LeO (laws_FnExactAddOr.j2 k y0 y1 y2 y3) (laws_FnExactAddOr.j2 (k + 1) y0 y1 y2 y3))
  | 0 => ⟨fun _ _ _ _ _ _ _ _ _ _ _ _ _ r h => by simp [laws_FnExactAddOr.j0] at h, fun _ _ _ _ _ _ _ _ _ _ r h => by simp [laws_FnExactAddOr.j1] at h, fun _ _ _ _ r h => by simp [laws_FnExactAddOr.j2] at h⟩
  | k + 1 => by
    obtain ⟨ih0, ih1, ih2⟩ := laws_FnExactAddOr.mono_l k
    refine ⟨?_, ?_, ?_⟩
    · intro y0 y1 y2 y3 y4 y5 y6 y7 y8 y9 y10 y11 y12
      unfold laws_FnExactAddOr.j0
      repeat' first
      | (with_reducible exact ih0 _ _ _ _ _ _ _ _ _ _ _ _ _)
      | (with_reducible exact ih1 _ _ _ _ _ _ _ _ _ _)
      | (with_reducible exact ih2 _ _ _ _)
      | (with_reducible exact impl_AddOr.mono _ _ _ _ _)
      | (with_reducible exact laws_eqCircuit.mono _ _ _ _ _)
      | (with_reducible exact laws_heldCircuit.mono _ _ _ _)
      | (with_reducible exact laws_markCircuit.mono _ _ _ _)
      | (with_reducible exact laws_toCircuit.mono _ _ _)
      | (with_reducible exact spec_AddOr.mono _ _ _ _ _)
      | (with_reducible exact LeO.refl _)
      | (with_reducible exact LeO.none _)
      | (with_reducible refine LeO.ite ?_ ?_)
      | (with_reducible refine LeO.bind ?_ (fun _ => ?_))
      | exact ih0 _ _ _ _ _ _ _ _ _ _ _ _ _
      | exact ih1 _ _ _ _ _ _ _ _ _ _
      | exact ih2 _ _ _ _
      | exact impl_AddOr.mono _ _ _ _ _
      | exact laws_eqCircuit.mono _ _ _ _ _
      | exact laws_heldCircuit.mono _ _ _ _
      | exact laws_markCircuit.mono _ _ _ _
      | exact laws_toCircuit.mono _ _ _
      | exact spec_AddOr.mono _ _ _ _ _
      | exact LeO.none _
      | refine LeO.ite ?_ ?_
      | refine LeO.bind ?_ (fun _ => ?_)
    · intro y0 y1 y2 y3 y4 y5 y6 y7 y8 y9
      unfold laws_FnExactAddOr.j1
      repeat' first
      | (with_reducible exact ih0 _ _ _ _ _ _ _ _ _ _ _ _ _)
      | (with_reducible exact ih1 _ _ _ _ _ _ _ _ _ _)
      | (with_reducible exact ih2 _ _ _ _)
      | (with_reducible exact impl_AddOr.mono _ _ _ _ _)
      | (with_reducible exact laws_eqCircuit.mono _ _ _ _ _)
      | (with_reducible exact laws_heldCircuit.mono _ _ _ _)
      | (with_reducible exact laws_markCircuit.mono _ _ _ _)
      | (with_reducible exact laws_toCircuit.mono _ _ _)
      | (with_reducible exact spec_AddOr.mono _ _ _ _ _)
      | (with_reducible exact LeO.refl _)
      | (with_reducible exact LeO.none _)
      | (with_reducible refine LeO.ite ?_ ?_)
      | (with_reducible refine LeO.bind ?_ (fun _ => ?_))
      | exact ih0 _ _ _ _ _ _ _ _ _ _ _ _ _
      | exact ih1 _ _ _ _ _ _ _ _ _ _
      | exact ih2 _ _ _ _
      | exact impl_AddOr.mono _ _ _ _ _
      | exact laws_eqCircuit.mono _ _ _ _ _
      | exact laws_heldCircuit.mono _ _ _ _
      | exact laws_markCircuit.mono _ _ _ _
      | exact laws_toCircuit.mono _ _ _
      | exact spec_AddOr.mono _ _ _ _ _
      | exact LeO.none _
      | refine LeO.ite ?_ ?_
      | refine LeO.bind ?_ (fun _ => ?_)
    · intro y0 y1 y2 y3
      unfold laws_FnExactAddOr.j2
      repeat' first
      | (with_reducible exact ih0 _ _ _ _ _ _ _ _ _ _ _ _ _)
      | (with_reducible exact ih1 _ _ _ _ _ _ _ _ _ _)
      | (with_reducible exact ih2 _ _ _ _)
      | (with_reducible exact impl_AddOr.mono _ _ _ _ _)
      | (with_reducible exact laws_eqCircuit.mono _ _ _ _ _)
      | (with_reducible exact laws_heldCircuit.mono _ _ _ _)
      | (with_reducible exact laws_markCircuit.mono _ _ _ _)
      | (with_reducible exact laws_toCircuit.mono _ _ _)
      | (with_reducible exact spec_AddOr.mono _ _ _ _ _)
      | (with_reducible exact LeO.refl _)
      | (with_reducible exact LeO.none _)
      | (with_reducible refine LeO.ite ?_ ?_)
      | (with_reducible refine LeO.bind ?_ (fun _ => ?_))
      | exact ih0 _ _ _ _ _ _ _ _ _ _ _ _ _
      | exact ih1 _ _ _ _ _ _ _ _ _ _
      | exact ih2 _ _ _ _
      | exact impl_AddOr.mono _ _ _ _ _
      | exact laws_eqCircuit.mono _ _ _ _ _
      | exact laws_heldCircuit.mono _ _ _ _
      | exact laws_markCircuit.mono _ _ _ _
      | exact laws_toCircuit.mono _ _ _
      | exact spec_AddOr.mono _ _ _ _ _
      | exact LeO.none _
      | refine LeO.ite ?_ ?_
      | refine LeO.bind ?_ (fun _ => ?_)
theorem laws_FnExactAddOr.mono : ∀ a0 a1 a2 a3 k, LeO (laws_FnExactAddOr.f k a0 a1 a2 a3) (laws_FnExactAddOr.f (k + 1) a0 a1 a2 a3) := by
  intro a0 a1 a2 a3 k
  obtain ⟨ih0, ih1, ih2⟩ := laws_FnExactAddOr.mono_l k
  unfold laws_FnExactAddOr.f
  repeat' first
      | (with_reducible exact ih0 _ _ _ _ _ _ _ _ _ _ _ _ _)
      | (with_reducible exact ih1 _ _ _ _ _ _ _ _ _ _)
      | (with_reducible exact ih2 _ _ _ _)
      | (with_reducible exact impl_AddOr.mono _ _ _ _ _)
      | (with_reducible exact laws_eqCircuit.mono _ _ _ _ _)
      | (with_reducible exact laws_heldCircuit.mono _ _ _ _)
      | (with_reducible exact laws_markCircuit.mono _ _ _ _)
      | (with_reducible exact laws_toCircuit.mono _ _ _)
      | (with_reducible exact spec_AddOr.mono _ _ _ _ _)
      | (with_reducible exact LeO.refl _)
      | (with_reducible exact LeO.none _)
      | (with_reducible refine LeO.ite ?_ ?_)
      | (with_reducible refine LeO.bind ?_ (fun _ => ?_))
      | exact ih0 _ _ _ _ _ _ _ _ _ _ _ _ _
      | exact ih1 _ _ _ _ _ _ _ _ _ _
      | exact ih2 _ _ _ _
      | exact impl_AddOr.mono _ _ _ _ _
      | exact laws_eqCircuit.mono _ _ _ _ _
      | exact laws_heldCircuit.mono _ _ _ _
      | exact laws_markCircuit.mono _ _ _ _
      | exact laws_toCircuit.mono _ _ _
      | exact spec_AddOr.mono _ _ _ _ _
      | exact LeO.none _
      | refine LeO.ite ?_ ?_
      | refine LeO.bind ?_ (fun _ => ?_)
set_option maxHeartbeats 8000000 in
set_option maxRecDepth 100000 in
theorem laws_FnExactAddOr.calls (k : Nat) (a0_0 : Int) (A0_1 : Option Addr) (c0_1 : Nat) (l0_1 : List (S63)) (a1 : Int) (a2 : Int) (r : Bool) (w : World) (hr0_1 : Kd.C k63 w A0_1 l0_1.length l0_1) (hc0_1 : l0_1.length ≤ c0_1) (h : laws_FnExactAddOr.f k a0_0 l0_1 a1 a2 = some r) :
    Calls Try.prog 4 #[.agg #[.int .i64 a0_0, .slice A0_1 l0_1.length c0_1], .int .i64 a1, .int .i64 a2] w fun e w' => e = .returned (.bool r) ∧ Below w.heap.size w w' := by
  have hu24 := Try.underlying24
  have hu28 := Try.underlying28
  have HR0_1 := Aside0.mk hr0_1
  have HC0_1 := Aside0.mk hc0_1
  clear hr0_1 hc0_1
  have HB := Aside0.mk (Below.refl w.heap.size w)
  have H : ((laws_szCircuit.f a0_0 l0_1 1048576).bind fun t205 => (if t205 < 0 then (some true) else ((laws_toCircuit.f k a0_0 l0_1).bind fun bt206 => ((spec_AddOr.f k bt206.1 bt206.2 a1 a2).bind fun bt210 => ((laws_toCircuit.f k a0_0 l0_1).bind fun bt216 => ((impl_AddOr.f k bt216.1 bt216.2 a1 a2).bind fun bt221 => ((laws_eqCircuit.f k bt221.1 bt221.2.1 bt210.1 bt210.2.1).bind fun t227 => (if t227 = true then (laws_FnExactAddOr.j0 k a1 a2 bt210.2.2 bt221.2.2 (bt221.2.2 != bt210.2.2) a0_0 l0_1 bt210.1 bt210.2.1 bt216.1 bt216.2 bt221.1 bt221.2.1) else (laws_FnExactAddOr.j0 k a1 a2 bt210.2.2 bt221.2.2 true a0_0 l0_1 bt210.1 bt210.2.1 bt216.1 bt216.2 bt221.1 bt221.2.1))))))))) = some r := h
  clear h
  replace H := Option.bind_eq_some_iff.mp H
  obtain ⟨t205, A40, H⟩ := H
  replace H : (if t205 < 0 then (some true) else ((laws_toCircuit.f k a0_0 l0_1).bind fun bt206 => ((spec_AddOr.f k bt206.1 bt206.2 a1 a2).bind fun bt210 => ((laws_toCircuit.f k a0_0 l0_1).bind fun bt216 => ((impl_AddOr.f k bt216.1 bt216.2 a1 a2).bind fun bt221 => ((laws_eqCircuit.f k bt221.1 bt221.2.1 bt210.1 bt210.2.1).bind fun t227 => (if t227 = true then (laws_FnExactAddOr.j0 k a1 a2 bt210.2.2 bt221.2.2 (bt221.2.2 != bt210.2.2) a0_0 l0_1 bt210.1 bt210.2.1 bt216.1 bt216.2 bt221.1 bt221.2.1) else (laws_FnExactAddOr.j0 k a1 a2 bt210.2.2 bt221.2.2 true a0_0 l0_1 bt210.1 bt210.2.1 bt216.1 bt216.2 bt221.1 bt221.2.1)))))))) = some r := H
  have A4 := Aside0.mk A40
  clear A40
  by_cases c5 : t205 < 0
  · rw [if_pos c5] at H
    have c5b0 : decide (t205 < 0) = true := decide_eq_true c5
    clear c5
    obtain rfl := Option.some.inj H
    go_enter Try.func4, Try.ntmps4
    go_wp2_with (first | ((with_reducible refine gate_dst (N := 3) rfl ?_); refine box_event ?hg (N := 3) ?hd (cs := #[.int .i64 a0_0, .slice A0_1 l0_1.length c0_1]) (t := 24) ?hr ?_; (case hd => rfl); (case hg => rfl); (case hr => first | (go_simp; done) | (go_simp; rfl)); intro gb204 hg w6 hbox hb; have n0_ := Aside0.mk (below_step (by repeat (first | (with_reducible first | exact HB.out | apply below_alloc | apply pw_below_drewN | apply below_drew1) | exact HB.out)) hb); have n1_ := Aside0.mk (hbox); have n2_ := Aside0.mk ((by rw [hg]; exact (below_size (by repeat (first | (with_reducible first | exact HB.out | apply below_alloc | apply pw_below_drewN | apply below_drew1) | exact HB.out))) : w.heap.size ≤ gb204)); have n3_ := Aside0.mk ((by rw [hg]; exact (below_size (by repeat (first | (with_reducible first | exact HB.out | apply below_alloc | apply pw_below_drewN | apply below_drew1) | exact HB.out))) : w.heap.size ≤ gb204)); clear HB; have HB := n0_; have BK204 := n1_; have GW204 := n2_; have GE204 := n3_; clear n0_ n1_ n2_ n3_; clear hb hbox hg; have hcz7_0 : w6.cell? ⟨gb204, 0, none⟩ = some (.int .i64 a0_0) := (blk_cell BK204.out 0).trans rfl; have hcz7_1 : w6.cell? ⟨gb204, 1, none⟩ = some (.slice A0_1 l0_1.length c0_1) := (blk_cell BK204.out 1).trans rfl; have hfz7_0 := blk_frozen BK204.out 0; have hfz7_1 := blk_frozen BK204.out 1) | ((with_reducible refine gate_callee (f := 6) rfl ?_); refine goesL_ (some 20) rfl rfl Try.func6 (by kernel_rfl) rfl #[.agg #[.int .i64 a0_0, .slice A0_1 l0_1.length c0_1], .int .i64 1048576] rfl (by (try simp only [List.map_toArray, List.map_cons, List.map_nil]); first | done | rfl | (simp only [List.length_drop, List.length_take]; rfl)) ?_; (with_reducible refine (laws_szCircuit.calls a0_0 _ _ l0_1 1048576 t205 _ ?side1 ?side2 A4.out).mono ?_); (case side1 => repeat (first | exact (Kd.C_below HR0_1.out HB.out) | (with_reducible refine Kd.C_alloc ?_ _) | (with_reducible refine Kd.C_drewN ?_ _) | (with_reducible refine Kd.C_drew ?_))); (case side2 => exact HC0_1.out); rintro e w8 ⟨rfl, hb⟩; refine ⟨_, rfl, ?_⟩; have n0_ := Aside0.mk (blk_below (g := gb204) (o := .cells #[.int .i64 a0_0, .slice A0_1 l0_1.length c0_1] 24 (0, 0)) (by (with_reducible repeat (first | refine blk_drewN ?_ _ | refine blk_drew ?_ | refine blk_alloc ?_ _)); exact BK204.out) hb); have n1_ := Aside0.mk (below_step (by repeat (first | (with_reducible first | exact HB.out | apply below_alloc | apply pw_below_drewN | apply below_drew1 | refine below_set ?_ GE204.out) | exact HB.out)) hb); clear BK204; clear HB; have BK204 := n0_; have HB := n1_; clear n0_ n1_; (try clear hb); (try clear hb2); (try clear hk); (try clear hi)))
    go_ret
    exact ⟨by first | rfl | (simp [errW_none, errW_some] <;> rfl) | (simp [*, errW_none, errW_some] <;> rfl), by repeat (first | (with_reducible first | exact HB.out | apply below_alloc | apply pw_below_drewN | apply below_drew1 | refine below_set ?_ GE204.out) | exact HB.out)⟩
  · rw [if_neg c5] at H
    have c5b0 : decide (t205 < 0) = false := decide_eq_false c5
    clear c5
    replace H := Option.bind_eq_some_iff.mp H
    obtain ⟨⟨t206, t207⟩, A90, H⟩ := H
    replace H : ((spec_AddOr.f k t206 t207 a1 a2).bind fun bt210 => ((laws_toCircuit.f k a0_0 l0_1).bind fun bt216 => ((impl_AddOr.f k bt216.1 bt216.2 a1 a2).bind fun bt221 => ((laws_eqCircuit.f k bt221.1 bt221.2.1 bt210.1 bt210.2.1).bind fun t227 => (if t227 = true then (laws_FnExactAddOr.j0 k a1 a2 bt210.2.2 bt221.2.2 (bt221.2.2 != bt210.2.2) a0_0 l0_1 bt210.1 bt210.2.1 bt216.1 bt216.2 bt221.1 bt221.2.1) else (laws_FnExactAddOr.j0 k a1 a2 bt210.2.2 bt221.2.2 true a0_0 l0_1 bt210.1 bt210.2.1 bt216.1 bt216.2 bt221.1 bt221.2.1)))))) = some r := H
    have A9 := Aside0.mk A90
    clear A90
    replace H := Option.bind_eq_some_iff.mp H
    obtain ⟨⟨t210, t211, t214⟩, A100, H⟩ := H
    replace H : ((laws_toCircuit.f k a0_0 l0_1).bind fun bt216 => ((impl_AddOr.f k bt216.1 bt216.2 a1 a2).bind fun bt221 => ((laws_eqCircuit.f k bt221.1 bt221.2.1 t210 t211).bind fun t227 => (if t227 = true then (laws_FnExactAddOr.j0 k a1 a2 t214 bt221.2.2 (bt221.2.2 != t214) a0_0 l0_1 t210 t211 bt216.1 bt216.2 bt221.1 bt221.2.1) else (laws_FnExactAddOr.j0 k a1 a2 t214 bt221.2.2 true a0_0 l0_1 t210 t211 bt216.1 bt216.2 bt221.1 bt221.2.1))))) = some r := H
    have A10 := Aside0.mk A100
    clear A100
    replace H := Option.bind_eq_some_iff.mp H
    obtain ⟨⟨t216, t217⟩, A110, H⟩ := H
    replace H : ((impl_AddOr.f k t216 t217 a1 a2).bind fun bt221 => ((laws_eqCircuit.f k bt221.1 bt221.2.1 t210 t211).bind fun t227 => (if t227 = true then (laws_FnExactAddOr.j0 k a1 a2 t214 bt221.2.2 (bt221.2.2 != t214) a0_0 l0_1 t210 t211 t216 t217 bt221.1 bt221.2.1) else (laws_FnExactAddOr.j0 k a1 a2 t214 bt221.2.2 true a0_0 l0_1 t210 t211 t216 t217 bt221.1 bt221.2.1)))) = some r := H
    have A11 := Aside0.mk A110
    clear A110
    replace H := Option.bind_eq_some_iff.mp H
    obtain ⟨⟨t221, t222, t225⟩, A120, H⟩ := H
    replace H : ((laws_eqCircuit.f k t221 t222 t210 t211).bind fun t227 => (if t227 = true then (laws_FnExactAddOr.j0 k a1 a2 t214 t225 (t225 != t214) a0_0 l0_1 t210 t211 t216 t217 t221 t222) else (laws_FnExactAddOr.j0 k a1 a2 t214 t225 true a0_0 l0_1 t210 t211 t216 t217 t221 t222))) = some r := H
    have A12 := Aside0.mk A120
    clear A120
    have HC13 := Aside0.mk H
    clear H
    go_enter Try.func4, Try.ntmps4
    go_upto_region 8 with (first | ((with_reducible refine gate_dst (N := 3) rfl ?_); refine box_event ?hg (N := 3) ?hd (cs := #[.int .i64 a0_0, .slice A0_1 l0_1.length c0_1]) (t := 24) ?hr ?_; (case hd => rfl); (case hg => rfl); (case hr => first | (go_simp; done) | (go_simp; rfl)); intro gb204 hg w14 hbox hb; have n0_ := Aside0.mk (below_step (by repeat (first | (with_reducible first | exact HB.out | apply below_alloc | apply pw_below_drewN | apply below_drew1) | exact HB.out)) hb); have n1_ := Aside0.mk (hbox); have n2_ := Aside0.mk ((by rw [hg]; exact (below_size (by repeat (first | (with_reducible first | exact HB.out | apply below_alloc | apply pw_below_drewN | apply below_drew1) | exact HB.out))) : w.heap.size ≤ gb204)); have n3_ := Aside0.mk ((by rw [hg]; exact (below_size (by repeat (first | (with_reducible first | exact HB.out | apply below_alloc | apply pw_below_drewN | apply below_drew1) | exact HB.out))) : w.heap.size ≤ gb204)); clear HB; have HB := n0_; have BK204 := n1_; have GW204 := n2_; have GE204 := n3_; clear n0_ n1_ n2_ n3_; clear hb hbox hg; have hcz15_0 : w14.cell? ⟨gb204, 0, none⟩ = some (.int .i64 a0_0) := (blk_cell BK204.out 0).trans rfl; have hcz15_1 : w14.cell? ⟨gb204, 1, none⟩ = some (.slice A0_1 l0_1.length c0_1) := (blk_cell BK204.out 1).trans rfl; have hfz15_0 := blk_frozen BK204.out 0; have hfz15_1 := blk_frozen BK204.out 1) | ((with_reducible refine gate_callee (f := 6) rfl ?_); refine goesL_ (some 20) rfl rfl Try.func6 (by kernel_rfl) rfl #[.agg #[.int .i64 a0_0, .slice A0_1 l0_1.length c0_1], .int .i64 1048576] rfl (by (try simp only [List.map_toArray, List.map_cons, List.map_nil]); first | done | rfl | (simp only [List.length_drop, List.length_take]; rfl)) ?_; (with_reducible refine (laws_szCircuit.calls a0_0 _ _ l0_1 1048576 t205 _ ?side1 ?side2 A4.out).mono ?_); (case side1 => repeat (first | exact (Kd.C_below HR0_1.out HB.out) | (with_reducible refine Kd.C_alloc ?_ _) | (with_reducible refine Kd.C_drewN ?_ _) | (with_reducible refine Kd.C_drew ?_))); (case side2 => exact HC0_1.out); rintro e w16 ⟨rfl, hb⟩; refine ⟨_, rfl, ?_⟩; have n0_ := Aside0.mk (blk_below (g := gb204) (o := .cells #[.int .i64 a0_0, .slice A0_1 l0_1.length c0_1] 24 (0, 0)) (by (with_reducible repeat (first | refine blk_drewN ?_ _ | refine blk_drew ?_ | refine blk_alloc ?_ _)); exact BK204.out) hb); have n1_ := Aside0.mk (below_step (by repeat (first | (with_reducible first | exact HB.out | apply below_alloc | apply pw_below_drewN | apply below_drew1 | refine below_set ?_ GE204.out) | exact HB.out)) hb); clear BK204; clear HB; have BK204 := n0_; have HB := n1_; clear n0_ n1_; (try clear hb); (try clear hb2); (try clear hk); (try clear hi); have hcz17_0 : w16.cell? ⟨gb204, 0, none⟩ = some (.int .i64 a0_0) := (blk_cell BK204.out 0).trans rfl; have hcz17_1 : w16.cell? ⟨gb204, 1, none⟩ = some (.slice A0_1 l0_1.length c0_1) := (blk_cell BK204.out 1).trans rfl; have hfz17_0 := blk_frozen BK204.out 0; have hfz17_1 := blk_frozen BK204.out 1) | ((with_reducible refine gate_callee (f := 8) rfl ?_); refine goesL_ (some 25) rfl rfl Try.func8 (by kernel_rfl) rfl #[.agg #[.int .i64 a0_0, .slice A0_1 l0_1.length c0_1]] rfl (by (try simp only [List.map_toArray, List.map_cons, List.map_nil]); first | done | rfl | (simp only [List.length_drop, List.length_take]; rfl)) ?_; (with_reducible refine (laws_toCircuit.calls k a0_0 _ _ l0_1 t206 t207 _ ?side1 ?side2 A9.out).mono ?_); (case side1 => repeat (first | exact (Kd.C_below HR0_1.out HB.out) | (with_reducible refine Kd.C_alloc ?_ _) | (with_reducible refine Kd.C_drewN ?_ _) | (with_reducible refine Kd.C_drew ?_))); (case side2 => exact HC0_1.out); rintro e w18 ⟨v208, rfl, ho0, hb⟩; refine ⟨_, rfl, ?_⟩; have n0_ := Aside0.mk (Kd.R_lower ho0 (below_size (by repeat (first | (with_reducible first | exact HB.out | apply below_alloc | apply pw_below_drewN | apply below_drew1 | refine below_set ?_ GE204.out) | exact HB.out)))); have n1_ := Aside0.mk (blk_below (g := gb204) (o := .cells #[.int .i64 a0_0, .slice A0_1 l0_1.length c0_1] 24 (0, 0)) (by (with_reducible repeat (first | refine blk_drewN ?_ _ | refine blk_drew ?_ | refine blk_alloc ?_ _)); exact BK204.out) hb); have n2_ := Aside0.mk (below_step (by repeat (first | (with_reducible first | exact HB.out | apply below_alloc | apply pw_below_drewN | apply below_drew1 | refine below_set ?_ GE204.out) | exact HB.out)) hb); clear BK204; clear HB; have HO209 := n0_; have BK204 := n1_; have HB := n2_; clear n0_ n1_ n2_; (try clear hb); (try clear hb2); (try clear hk); (try clear hi); (try clear ho0); obtain ⟨Ao19, co19, eo19⟩ := Kd.R_slice HO209.out; subst eo19) | ((with_reducible refine gate_callee (f := 13) rfl ?_); refine goesL_ (some 28) rfl rfl Try.func13 (by kernel_rfl) rfl #[.agg #[.int .i64 t206, .slice Ao19 t207.length co19], .int .i64 a1, .int .i64 a2] rfl (by (try simp only [List.map_toArray, List.map_cons, List.map_nil]); first | done | rfl | (simp only [List.length_drop, List.length_take]; rfl)) ?_; (with_reducible refine (spec_AddOr.calls k t206 _ _ t207 a1 a2 t210 t211 t214 _ ?side1 ?side2 A10.out).mono ?_); (case side1 => repeat (first | exact (Kd.R_reads' HO209.out).2.2 | (with_reducible refine Kd.C_alloc ?_ _) | (with_reducible refine Kd.C_drewN ?_ _) | (with_reducible refine Kd.C_drew ?_))); (case side2 => exact (Kd.R_reads' HO209.out).2.1); rintro e w20 ⟨v212, rfl, ho0, hb⟩; refine ⟨_, rfl, ?_⟩; have n0_ := Aside0.mk (Kd.R_elder' (by (with_reducible repeat (first | apply Kd.R_alloc | apply Kd.R_drewN | apply Kd.R_drew)); exact HO209.out) (Kd.R_base ho0) hb); have n1_ := Aside0.mk (Kd.R_lower (Kd.R_new' ho0 (Kd.R_lt (by (with_reducible repeat (first | apply Kd.R_alloc | apply Kd.R_drewN | apply Kd.R_drew)); exact HO209.out))) (below_size (by repeat (first | (with_reducible first | exact HB.out | apply below_alloc | apply pw_below_drewN | apply below_drew1 | refine below_set ?_ GE204.out) | exact HB.out)))); have n2_ := Aside0.mk (blk_below (g := gb204) (o := .cells #[.int .i64 a0_0, .slice A0_1 l0_1.length c0_1] 24 (0, 0)) (by (with_reducible repeat (first | refine blk_drewN ?_ _ | refine blk_drew ?_ | refine blk_alloc ?_ _)); exact BK204.out) hb); have n3_ := Aside0.mk (below_step (by repeat (first | (with_reducible first | exact HB.out | apply below_alloc | apply pw_below_drewN | apply below_drew1 | refine below_set ?_ GE204.out) | exact HB.out)) hb); clear HO209; clear BK204; clear HB; have HO209 := n0_; have HO213 := n1_; have BK204 := n2_; have HB := n3_; clear n0_ n1_ n2_ n3_; (try clear hb); (try clear hb2); (try clear hk); (try clear hi); (try clear ho0)) | ((with_reducible refine gate_dst (N := 8) rfl ?_); refine box_event ?hg (N := 8) ?hd (cs := #[.int .i64 0, .slice none 0 0]) (t := 28) ?hr ?_; (case hd => rfl); (case hg => rfl); (case hr => first | (go_simp; done) | (go_simp; rfl)); intro gb215 hg w21 hbox hb; have n0_ := Aside0.mk (Kd.R_below (by (with_reducible repeat (first | apply Kd.R_alloc | apply Kd.R_drewN | apply Kd.R_drew)); exact HO209.out) hb); have n1_ := Aside0.mk (Kd.R_below (by (with_reducible repeat (first | apply Kd.R_alloc | apply Kd.R_drewN | apply Kd.R_drew)); exact HO213.out) hb); have n2_ := Aside0.mk (blk_below (g := gb204) (o := .cells #[.int .i64 a0_0, .slice A0_1 l0_1.length c0_1] 24 (0, 0)) (by (with_reducible repeat (first | refine blk_drewN ?_ _ | refine blk_drew ?_ | refine blk_alloc ?_ _)); exact BK204.out) hb); have n3_ := Aside0.mk (below_step (by repeat (first | (with_reducible first | exact HB.out | apply below_alloc | apply pw_below_drewN | apply below_drew1 | refine below_set ?_ GE204.out) | exact HB.out)) hb); have n4_ := Aside0.mk (hbox); have n5_ := Aside0.mk ((by rw [hg]; exact (below_size (by repeat (first | (with_reducible first | exact HB.out | apply below_alloc | apply pw_below_drewN | apply below_drew1 | refine below_set ?_ GE204.out) | exact HB.out))) : w.heap.size ≤ gb215)); have n6_ := Aside0.mk ((by rw [hg]; exact (below_size (by repeat (first | (with_reducible first | exact HB.out | apply below_alloc | apply pw_below_drewN | apply below_drew1 | refine below_set ?_ GE204.out) | exact HB.out))) : w.heap.size ≤ gb215)); have n7_ := Aside0.mk ((by rw [hg]; exact Nat.ne_of_lt (blk_lt (g := gb204) (o := .cells #[.int .i64 a0_0, .slice A0_1 l0_1.length c0_1] 24 (0, 0)) (by (with_reducible repeat (first | refine blk_drewN ?_ _ | refine blk_drew ?_ | refine blk_alloc ?_ _)); exact BK204.out)) : gb204 ≠ gb215)); have n8_ := Aside0.mk ((by rw [hg]; exact Nat.ne_of_gt (blk_lt (g := gb204) (o := .cells #[.int .i64 a0_0, .slice A0_1 l0_1.length c0_1] 24 (0, 0)) (by (with_reducible repeat (first | refine blk_drewN ?_ _ | refine blk_drew ?_ | refine blk_alloc ?_ _)); exact BK204.out)) : gb215 ≠ gb204)); clear HO209; clear HO213; clear BK204; clear HB; have HO209 := n0_; have HO213 := n1_; have BK204 := n2_; have HB := n3_; have BK215 := n4_; have GW215 := n5_; have GE215 := n6_; have NB204_215 := n7_; have NB215_204 := n8_; clear n0_ n1_ n2_ n3_ n4_ n5_ n6_ n7_ n8_; clear hb hbox hg; have hnb22 := NB215_204.out; have hnc22 := NB204_215.out; have hcz23_0 : w21.cell? ⟨gb215, 0, none⟩ = some (.int .i64 0) := (blk_cell BK215.out 0).trans rfl; have hcz23_1 : w21.cell? ⟨gb215, 1, none⟩ = some (.slice none 0 0) := (blk_cell BK215.out 1).trans rfl; have hfz23_0 := blk_frozen BK215.out 0; have hfz23_1 := blk_frozen BK215.out 1; obtain ⟨Ao24, co24, eo24⟩ := Kd.R_slice HO213.out; subst eo24; have hcz25_0 : w21.cell? ⟨gb204, 0, none⟩ = some (.int .i64 a0_0) := (blk_cell BK204.out 0).trans rfl; have hcz25_1 : w21.cell? ⟨gb204, 1, none⟩ = some (.slice A0_1 l0_1.length c0_1) := (blk_cell BK204.out 1).trans rfl; have hfz25_0 := blk_frozen BK204.out 0; have hfz25_1 := blk_frozen BK204.out 1) | ((with_reducible refine gate_callee (f := 8) rfl ?_); refine goesL_ (some 32) rfl rfl Try.func8 (by kernel_rfl) rfl #[.agg #[.int .i64 a0_0, .slice A0_1 l0_1.length c0_1]] rfl (by (try simp only [List.map_toArray, List.map_cons, List.map_nil]); first | done | rfl | (simp only [List.length_drop, List.length_take]; rfl)) ?_; (with_reducible refine (laws_toCircuit.calls k a0_0 _ _ l0_1 t216 t217 _ ?side1 ?side2 A11.out).mono ?_); (case side1 => exact Kd.C_below HR0_1.out (by repeat (first | (with_reducible first | exact HB.out | apply below_alloc | apply pw_below_drewN | apply below_drew1 | refine below_set ?_ GE204.out | refine below_set ?_ GE215.out) | exact HB.out))); (case side2 => exact HC0_1.out); rintro e w26 ⟨v218, rfl, ho0, hb⟩; refine ⟨_, rfl, ?_⟩; have n0_ := Aside0.mk (Kd.R_elder' (by (with_reducible repeat (first | apply Kd.R_alloc | apply Kd.R_drewN | apply Kd.R_drew)); exact (Kd.R_mono (Kd.R_far (p := ⟨gb215, 1, none⟩) (Kd.R_far (p := ⟨gb215, 0, none⟩) (Kd.R_types HO209.out BK215.out (by decide)) (fun _ hk => hk.2) (.int .i64 t210)) (fun _ hk => hk.2) (.slice Ao24 t211.length co24)) (fun _ h_ => h_.1))) (Kd.R_base ho0) hb); have n1_ := Aside0.mk (Kd.R_elder' (by (with_reducible repeat (first | apply Kd.R_alloc | apply Kd.R_drewN | apply Kd.R_drew)); exact (Kd.R_mono (Kd.R_far (p := ⟨gb215, 1, none⟩) (Kd.R_far (p := ⟨gb215, 0, none⟩) (Kd.R_types HO213.out BK215.out (by decide)) (fun _ hk => hk.2) (.int .i64 t210)) (fun _ hk => hk.2) (.slice Ao24 t211.length co24)) (fun _ h_ => h_.1))) (Kd.R_base ho0) hb); have n2_ := Aside0.mk (Kd.R_lower (Kd.R_new' (Kd.R_new' ho0 (Kd.R_lt (by (with_reducible repeat (first | apply Kd.R_alloc | apply Kd.R_drewN | apply Kd.R_drew)); exact (Kd.R_mono (Kd.R_far (p := ⟨gb215, 1, none⟩) (Kd.R_far (p := ⟨gb215, 0, none⟩) (Kd.R_types HO209.out BK215.out (by decide)) (fun _ hk => hk.2) (.int .i64 t210)) (fun _ hk => hk.2) (.slice Ao24 t211.length co24)) (fun _ h_ => h_.1))))) (Kd.R_lt (by (with_reducible repeat (first | apply Kd.R_alloc | apply Kd.R_drewN | apply Kd.R_drew)); exact (Kd.R_mono (Kd.R_far (p := ⟨gb215, 1, none⟩) (Kd.R_far (p := ⟨gb215, 0, none⟩) (Kd.R_types HO213.out BK215.out (by decide)) (fun _ hk => hk.2) (.int .i64 t210)) (fun _ hk => hk.2) (.slice Ao24 t211.length co24)) (fun _ h_ => h_.1))))) (below_size (by repeat (first | (with_reducible first | exact HB.out | apply below_alloc | apply pw_below_drewN | apply below_drew1 | refine below_set ?_ GE204.out | refine below_set ?_ GE215.out) | exact HB.out)))); have n3_ := Aside0.mk (blk_below (g := gb204) (o := .cells #[.int .i64 a0_0, .slice A0_1 l0_1.length c0_1] 24 (0, 0)) (by (with_reducible repeat (first | refine blk_drewN ?_ _ | refine blk_drew ?_ | refine blk_alloc ?_ _)); refine blk_far ?_ NB204_215.out _; (with_reducible repeat (first | refine blk_drewN ?_ _ | refine blk_drew ?_ | refine blk_alloc ?_ _)); refine blk_far ?_ NB204_215.out _; (with_reducible repeat (first | refine blk_drewN ?_ _ | refine blk_drew ?_ | refine blk_alloc ?_ _)); exact BK204.out) hb); have n4_ := Aside0.mk (blk_below (g := gb215) (o := .cells #[.int .i64 t210, .slice Ao24 t211.length co24] 28 (0, 0)) (by (with_reducible repeat (first | refine blk_drewN ?_ _ | refine blk_drew ?_ | refine blk_alloc ?_ _)); refine blk_put (cs := #[.int .i64 t210, .slice none 0 0]) ?_ 1 _ rfl; (with_reducible repeat (first | refine blk_drewN ?_ _ | refine blk_drew ?_ | refine blk_alloc ?_ _)); refine blk_put (cs := #[.int .i64 0, .slice none 0 0]) ?_ 0 _ rfl; (with_reducible repeat (first | refine blk_drewN ?_ _ | refine blk_drew ?_ | refine blk_alloc ?_ _)); exact BK215.out) hb); have n5_ := Aside0.mk (below_step (by repeat (first | (with_reducible first | exact HB.out | apply below_alloc | apply pw_below_drewN | apply below_drew1 | refine below_set ?_ GE204.out | refine below_set ?_ GE215.out) | exact HB.out)) hb); clear HO209; clear HO213; clear BK204; clear BK215; clear HB; have HO209 := n0_; have HO213 := n1_; have HO219 := n2_; have BK204 := n3_; have BK215 := n4_; have HB := n5_; clear n0_ n1_ n2_ n3_ n4_ n5_; (try clear hb); (try clear hb2); (try clear hk); (try clear hi); (try clear ho0)) | ((with_reducible refine gate_dst (N := 10) rfl ?_); refine box_event ?hg (N := 10) ?hd (cs := #[.int .i64 0, .slice none 0 0]) (t := 28) ?hr ?_; (case hd => rfl); (case hg => rfl); (case hr => first | (go_simp; done) | (go_simp; rfl)); intro gb220 hg w27 hbox hb; have n0_ := Aside0.mk (Kd.R_below (by (with_reducible repeat (first | apply Kd.R_alloc | apply Kd.R_drewN | apply Kd.R_drew)); exact HO209.out) hb); have n1_ := Aside0.mk (Kd.R_below (by (with_reducible repeat (first | apply Kd.R_alloc | apply Kd.R_drewN | apply Kd.R_drew)); exact HO213.out) hb); have n2_ := Aside0.mk (Kd.R_below (by (with_reducible repeat (first | apply Kd.R_alloc | apply Kd.R_drewN | apply Kd.R_drew)); exact HO219.out) hb); have n3_ := Aside0.mk (blk_below (g := gb204) (o := .cells #[.int .i64 a0_0, .slice A0_1 l0_1.length c0_1] 24 (0, 0)) (by (with_reducible repeat (first | refine blk_drewN ?_ _ | refine blk_drew ?_ | refine blk_alloc ?_ _)); exact BK204.out) hb); have n4_ := Aside0.mk (blk_below (g := gb215) (o := .cells #[.int .i64 t210, .slice Ao24 t211.length co24] 28 (0, 0)) (by (with_reducible repeat (first | refine blk_drewN ?_ _ | refine blk_drew ?_ | refine blk_alloc ?_ _)); exact BK215.out) hb); have n5_ := Aside0.mk (below_step (by repeat (first | (with_reducible first | exact HB.out | apply below_alloc | apply pw_below_drewN | apply below_drew1 | refine below_set ?_ GE204.out | refine below_set ?_ GE215.out) | exact HB.out)) hb); have n6_ := Aside0.mk (hbox); have n7_ := Aside0.mk ((by rw [hg]; exact (below_size (by repeat (first | (with_reducible first | exact HB.out | apply below_alloc | apply pw_below_drewN | apply below_drew1 | refine below_set ?_ GE204.out | refine below_set ?_ GE215.out) | exact HB.out))) : w.heap.size ≤ gb220)); have n8_ := Aside0.mk ((by rw [hg]; exact (below_size (by repeat (first | (with_reducible first | exact HB.out | apply below_alloc | apply pw_below_drewN | apply below_drew1 | refine below_set ?_ GE204.out | refine below_set ?_ GE215.out) | exact HB.out))) : w.heap.size ≤ gb220)); have n9_ := Aside0.mk ((by rw [hg]; exact Nat.ne_of_lt (blk_lt (g := gb204) (o := .cells #[.int .i64 a0_0, .slice A0_1 l0_1.length c0_1] 24 (0, 0)) (by (with_reducible repeat (first | refine blk_drewN ?_ _ | refine blk_drew ?_ | refine blk_alloc ?_ _)); exact BK204.out)) : gb204 ≠ gb220)); have n10_ := Aside0.mk ((by rw [hg]; exact Nat.ne_of_gt (blk_lt (g := gb204) (o := .cells #[.int .i64 a0_0, .slice A0_1 l0_1.length c0_1] 24 (0, 0)) (by (with_reducible repeat (first | refine blk_drewN ?_ _ | refine blk_drew ?_ | refine blk_alloc ?_ _)); exact BK204.out)) : gb220 ≠ gb204)); have n11_ := Aside0.mk ((by rw [hg]; exact Nat.ne_of_lt (blk_lt (g := gb215) (o := .cells #[.int .i64 t210, .slice Ao24 t211.length co24] 28 (0, 0)) (by (with_reducible repeat (first | refine blk_drewN ?_ _ | refine blk_drew ?_ | refine blk_alloc ?_ _)); exact BK215.out)) : gb215 ≠ gb220)); have n12_ := Aside0.mk ((by rw [hg]; exact Nat.ne_of_gt (blk_lt (g := gb215) (o := .cells #[.int .i64 t210, .slice Ao24 t211.length co24] 28 (0, 0)) (by (with_reducible repeat (first | refine blk_drewN ?_ _ | refine blk_drew ?_ | refine blk_alloc ?_ _)); exact BK215.out)) : gb220 ≠ gb215)); clear HO209; clear HO213; clear HO219; clear BK204; clear BK215; clear HB; have HO209 := n0_; have HO213 := n1_; have HO219 := n2_; have BK204 := n3_; have BK215 := n4_; have HB := n5_; have BK220 := n6_; have GW220 := n7_; have GE220 := n8_; have NB204_220 := n9_; have NB220_204 := n10_; have NB215_220 := n11_; have NB220_215 := n12_; clear n0_ n1_ n2_ n3_ n4_ n5_ n6_ n7_ n8_ n9_ n10_ n11_ n12_; clear hb hbox hg; have hnb28 := NB220_204.out; have hnc28 := NB204_220.out; have hnb29 := NB220_215.out; have hnc29 := NB215_220.out; have hcz30_0 : w27.cell? ⟨gb220, 0, none⟩ = some (.int .i64 0) := (blk_cell BK220.out 0).trans rfl; have hcz30_1 : w27.cell? ⟨gb220, 1, none⟩ = some (.slice none 0 0) := (blk_cell BK220.out 1).trans rfl; have hfz30_0 := blk_frozen BK220.out 0; have hfz30_1 := blk_frozen BK220.out 1; obtain ⟨Ao31, co31, eo31⟩ := Kd.R_slice HO219.out; subst eo31) | ((with_reducible refine gate_callee (f := 14) rfl ?_); refine goesL_ (some 37) rfl rfl Try.func14 (by kernel_rfl) rfl #[.agg #[.int .i64 t216, .slice Ao31 t217.length co31], .int .i64 a1, .int .i64 a2] rfl (by (try simp only [List.map_toArray, List.map_cons, List.map_nil]); first | done | rfl | (simp only [List.length_drop, List.length_take]; rfl)) ?_; (with_reducible refine (impl_AddOr.calls k t216 _ _ t217 a1 a2 t221 t222 t225 _ ?side1 ?side2 A12.out).mono ?_); (case side1 => refine (Kd.R_reads' (e := 57) (base := w.heap.size) (ok := fun k_ => ((True ∧ some k_ ≠ (.slice Ao19 t207.length co19 : Value).ownBlock) ∧ some k_ ≠ (.slice Ao24 t211.length co24 : Value).ownBlock)) (n := t217.length) (c := co31) ?_).2.2; exact (by (with_reducible repeat (first | apply Kd.R_alloc | apply Kd.R_drewN | apply Kd.R_drew)); exact (Kd.R_mono (Kd.R_far (p := ⟨gb220, 1, none⟩) (Kd.R_far (p := ⟨gb220, 0, none⟩) (Kd.R_types HO219.out BK220.out (by decide)) (fun _ hk => hk.2) (.int .i64 t216)) (fun _ hk => hk.2) (.slice Ao31 t217.length co31)) (fun _ h_ => h_.1)))); (case side2 => exact (Kd.R_reads' HO219.out).2.1); rintro e w32 ⟨v223, rfl, ho0, hb⟩; refine ⟨_, rfl, ?_⟩; have n0_ := Aside0.mk (Kd.R_elder' (by (with_reducible repeat (first | apply Kd.R_alloc | apply Kd.R_drewN | apply Kd.R_drew)); exact (Kd.R_mono (Kd.R_far (p := ⟨gb220, 1, none⟩) (Kd.R_far (p := ⟨gb220, 0, none⟩) (Kd.R_types HO209.out BK220.out (by decide)) (fun _ hk => hk.2) (.int .i64 t216)) (fun _ hk => hk.2) (.slice Ao31 t217.length co31)) (fun _ h_ => h_.1))) (Kd.R_base ho0) hb); have n1_ := Aside0.mk (Kd.R_elder' (by (with_reducible repeat (first | apply Kd.R_alloc | apply Kd.R_drewN | apply Kd.R_drew)); exact (Kd.R_mono (Kd.R_far (p := ⟨gb220, 1, none⟩) (Kd.R_far (p := ⟨gb220, 0, none⟩) (Kd.R_types HO213.out BK220.out (by decide)) (fun _ hk => hk.2) (.int .i64 t216)) (fun _ hk => hk.2) (.slice Ao31 t217.length co31)) (fun _ h_ => h_.1))) (Kd.R_base ho0) hb); have n2_ := Aside0.mk (Kd.R_elder' (by (with_reducible repeat (first | apply Kd.R_alloc | apply Kd.R_drewN | apply Kd.R_drew)); exact (Kd.R_mono (Kd.R_far (p := ⟨gb220, 1, none⟩) (Kd.R_far (p := ⟨gb220, 0, none⟩) (Kd.R_types HO219.out BK220.out (by decide)) (fun _ hk => hk.2) (.int .i64 t216)) (fun _ hk => hk.2) (.slice Ao31 t217.length co31)) (fun _ h_ => h_.1))) (Kd.R_base ho0) hb); have n3_ := Aside0.mk (Kd.R_lower (Kd.R_new' (Kd.R_new' (Kd.R_new' ho0 (Kd.R_lt (by (with_reducible repeat (first | apply Kd.R_alloc | apply Kd.R_drewN | apply Kd.R_drew)); exact (Kd.R_mono (Kd.R_far (p := ⟨gb220, 1, none⟩) (Kd.R_far (p := ⟨gb220, 0, none⟩) (Kd.R_types HO209.out BK220.out (by decide)) (fun _ hk => hk.2) (.int .i64 t216)) (fun _ hk => hk.2) (.slice Ao31 t217.length co31)) (fun _ h_ => h_.1))))) (Kd.R_lt (by (with_reducible repeat (first | apply Kd.R_alloc | apply Kd.R_drewN | apply Kd.R_drew)); exact (Kd.R_mono (Kd.R_far (p := ⟨gb220, 1, none⟩) (Kd.R_far (p := ⟨gb220, 0, none⟩) (Kd.R_types HO213.out BK220.out (by decide)) (fun _ hk => hk.2) (.int .i64 t216)) (fun _ hk => hk.2) (.slice Ao31 t217.length co31)) (fun _ h_ => h_.1))))) (Kd.R_lt (by (with_reducible repeat (first | apply Kd.R_alloc | apply Kd.R_drewN | apply Kd.R_drew)); exact (Kd.R_mono (Kd.R_far (p := ⟨gb220, 1, none⟩) (Kd.R_far (p := ⟨gb220, 0, none⟩) (Kd.R_types HO219.out BK220.out (by decide)) (fun _ hk => hk.2) (.int .i64 t216)) (fun _ hk => hk.2) (.slice Ao31 t217.length co31)) (fun _ h_ => h_.1))))) (below_size (by repeat (first | (with_reducible first | exact HB.out | apply below_alloc | apply pw_below_drewN | apply below_drew1 | refine below_set ?_ GE204.out | refine below_set ?_ GE215.out | refine below_set ?_ GE220.out) | exact HB.out)))); have n4_ := Aside0.mk (blk_below (g := gb204) (o := .cells #[.int .i64 a0_0, .slice A0_1 l0_1.length c0_1] 24 (0, 0)) (by (with_reducible repeat (first | refine blk_drewN ?_ _ | refine blk_drew ?_ | refine blk_alloc ?_ _)); refine blk_far ?_ NB204_220.out _; (with_reducible repeat (first | refine blk_drewN ?_ _ | refine blk_drew ?_ | refine blk_alloc ?_ _)); refine blk_far ?_ NB204_220.out _; (with_reducible repeat (first | refine blk_drewN ?_ _ | refine blk_drew ?_ | refine blk_alloc ?_ _)); exact BK204.out) hb); have n5_ := Aside0.mk (blk_below (g := gb215) (o := .cells #[.int .i64 t210, .slice Ao24 t211.length co24] 28 (0, 0)) (by (with_reducible repeat (first | refine blk_drewN ?_ _ | refine blk_drew ?_ | refine blk_alloc ?_ _)); refine blk_far ?_ NB215_220.out _; (with_reducible repeat (first | refine blk_drewN ?_ _ | refine blk_drew ?_ | refine blk_alloc ?_ _)); refine blk_far ?_ NB215_220.out _; (with_reducible repeat (first | refine blk_drewN ?_ _ | refine blk_drew ?_ | refine blk_alloc ?_ _)); exact BK215.out) hb); have n6_ := Aside0.mk (blk_below (g := gb220) (o := .cells #[.int .i64 t216, .slice Ao31 t217.length co31] 28 (0, 0)) (by (with_reducible repeat (first | refine blk_drewN ?_ _ | refine blk_drew ?_ | refine blk_alloc ?_ _)); refine blk_put (cs := #[.int .i64 t216, .slice none 0 0]) ?_ 1 _ rfl; (with_reducible repeat (first | refine blk_drewN ?_ _ | refine blk_drew ?_ | refine blk_alloc ?_ _)); refine blk_put (cs := #[.int .i64 0, .slice none 0 0]) ?_ 0 _ rfl; (with_reducible repeat (first | refine blk_drewN ?_ _ | refine blk_drew ?_ | refine blk_alloc ?_ _)); exact BK220.out) hb); have n7_ := Aside0.mk (below_step (by repeat (first | (with_reducible first | exact HB.out | apply below_alloc | apply pw_below_drewN | apply below_drew1 | refine below_set ?_ GE204.out | refine below_set ?_ GE215.out | refine below_set ?_ GE220.out) | exact HB.out)) hb); clear HO209; clear HO213; clear HO219; clear BK204; clear BK215; clear BK220; clear HB; have HO209 := n0_; have HO213 := n1_; have HO219 := n2_; have HO224 := n3_; have BK204 := n4_; have BK215 := n5_; have BK220 := n6_; have HB := n7_; clear n0_ n1_ n2_ n3_ n4_ n5_ n6_ n7_; (try clear hb); (try clear hb2); (try clear hk); (try clear hi); (try clear ho0)) | ((with_reducible refine gate_dst (N := 11) rfl ?_); refine box_event ?hg (N := 11) ?hd (cs := #[.int .i64 0, .slice none 0 0]) (t := 28) ?hr ?_; (case hd => rfl); (case hg => rfl); (case hr => first | (go_simp; done) | (go_simp; rfl)); intro gb226 hg w33 hbox hb; have n0_ := Aside0.mk (Kd.R_below (by (with_reducible repeat (first | apply Kd.R_alloc | apply Kd.R_drewN | apply Kd.R_drew)); exact HO209.out) hb); have n1_ := Aside0.mk (Kd.R_below (by (with_reducible repeat (first | apply Kd.R_alloc | apply Kd.R_drewN | apply Kd.R_drew)); exact HO213.out) hb); have n2_ := Aside0.mk (Kd.R_below (by (with_reducible repeat (first | apply Kd.R_alloc | apply Kd.R_drewN | apply Kd.R_drew)); exact HO219.out) hb); have n3_ := Aside0.mk (Kd.R_below (by (with_reducible repeat (first | apply Kd.R_alloc | apply Kd.R_drewN | apply Kd.R_drew)); exact HO224.out) hb); have n4_ := Aside0.mk (blk_below (g := gb204) (o := .cells #[.int .i64 a0_0, .slice A0_1 l0_1.length c0_1] 24 (0, 0)) (by (with_reducible repeat (first | refine blk_drewN ?_ _ | refine blk_drew ?_ | refine blk_alloc ?_ _)); exact BK204.out) hb); have n5_ := Aside0.mk (blk_below (g := gb215) (o := .cells #[.int .i64 t210, .slice Ao24 t211.length co24] 28 (0, 0)) (by (with_reducible repeat (first | refine blk_drewN ?_ _ | refine blk_drew ?_ | refine blk_alloc ?_ _)); exact BK215.out) hb); have n6_ := Aside0.mk (blk_below (g := gb220) (o := .cells #[.int .i64 t216, .slice Ao31 t217.length co31] 28 (0, 0)) (by (with_reducible repeat (first | refine blk_drewN ?_ _ | refine blk_drew ?_ | refine blk_alloc ?_ _)); exact BK220.out) hb); have n7_ := Aside0.mk (below_step (by repeat (first | (with_reducible first | exact HB.out | apply below_alloc | apply pw_below_drewN | apply below_drew1 | refine below_set ?_ GE204.out | refine below_set ?_ GE215.out | refine below_set ?_ GE220.out) | exact HB.out)) hb); have n8_ := Aside0.mk (hbox); have n9_ := Aside0.mk ((by rw [hg]; exact (below_size (by repeat (first | (with_reducible first | exact HB.out | apply below_alloc | apply pw_below_drewN | apply below_drew1 | refine below_set ?_ GE204.out | refine below_set ?_ GE215.out | refine below_set ?_ GE220.out) | exact HB.out))) : w.heap.size ≤ gb226)); have n10_ := Aside0.mk ((by rw [hg]; exact (below_size (by repeat (first | (with_reducible first | exact HB.out | apply below_alloc | apply pw_below_drewN | apply below_drew1 | refine below_set ?_ GE204.out | refine below_set ?_ GE215.out | refine below_set ?_ GE220.out) | exact HB.out))) : w.heap.size ≤ gb226)); have n11_ := Aside0.mk ((by rw [hg]; exact Nat.ne_of_lt (blk_lt (g := gb204) (o := .cells #[.int .i64 a0_0, .slice A0_1 l0_1.length c0_1] 24 (0, 0)) (by (with_reducible repeat (first | refine blk_drewN ?_ _ | refine blk_drew ?_ | refine blk_alloc ?_ _)); exact BK204.out)) : gb204 ≠ gb226)); have n12_ := Aside0.mk ((by rw [hg]; exact Nat.ne_of_gt (blk_lt (g := gb204) (o := .cells #[.int .i64 a0_0, .slice A0_1 l0_1.length c0_1] 24 (0, 0)) (by (with_reducible repeat (first | refine blk_drewN ?_ _ | refine blk_drew ?_ | refine blk_alloc ?_ _)); exact BK204.out)) : gb226 ≠ gb204)); have n13_ := Aside0.mk ((by rw [hg]; exact Nat.ne_of_lt (blk_lt (g := gb215) (o := .cells #[.int .i64 t210, .slice Ao24 t211.length co24] 28 (0, 0)) (by (with_reducible repeat (first | refine blk_drewN ?_ _ | refine blk_drew ?_ | refine blk_alloc ?_ _)); exact BK215.out)) : gb215 ≠ gb226)); have n14_ := Aside0.mk ((by rw [hg]; exact Nat.ne_of_gt (blk_lt (g := gb215) (o := .cells #[.int .i64 t210, .slice Ao24 t211.length co24] 28 (0, 0)) (by (with_reducible repeat (first | refine blk_drewN ?_ _ | refine blk_drew ?_ | refine blk_alloc ?_ _)); exact BK215.out)) : gb226 ≠ gb215)); have n15_ := Aside0.mk ((by rw [hg]; exact Nat.ne_of_lt (blk_lt (g := gb220) (o := .cells #[.int .i64 t216, .slice Ao31 t217.length co31] 28 (0, 0)) (by (with_reducible repeat (first | refine blk_drewN ?_ _ | refine blk_drew ?_ | refine blk_alloc ?_ _)); exact BK220.out)) : gb220 ≠ gb226)); have n16_ := Aside0.mk ((by rw [hg]; exact Nat.ne_of_gt (blk_lt (g := gb220) (o := .cells #[.int .i64 t216, .slice Ao31 t217.length co31] 28 (0, 0)) (by (with_reducible repeat (first | refine blk_drewN ?_ _ | refine blk_drew ?_ | refine blk_alloc ?_ _)); exact BK220.out)) : gb226 ≠ gb220)); clear HO209; clear HO213; clear HO219; clear HO224; clear BK204; clear BK215; clear BK220; clear HB; have HO209 := n0_; have HO213 := n1_; have HO219 := n2_; have HO224 := n3_; have BK204 := n4_; have BK215 := n5_; have BK220 := n6_; have HB := n7_; have BK226 := n8_; have GW226 := n9_; have GE226 := n10_; have NB204_226 := n11_; have NB226_204 := n12_; have NB215_226 := n13_; have NB226_215 := n14_; have NB220_226 := n15_; have NB226_220 := n16_; clear n0_ n1_ n2_ n3_ n4_ n5_ n6_ n7_ n8_ n9_ n10_ n11_ n12_ n13_ n14_ n15_ n16_; clear hb hbox hg; have hnb34 := NB226_204.out; have hnc34 := NB204_226.out; have hnb35 := NB226_215.out; have hnc35 := NB215_226.out; have hnb36 := NB226_220.out; have hnc36 := NB220_226.out; have hcz37_0 : w33.cell? ⟨gb226, 0, none⟩ = some (.int .i64 0) := (blk_cell BK226.out 0).trans rfl; have hcz37_1 : w33.cell? ⟨gb226, 1, none⟩ = some (.slice none 0 0) := (blk_cell BK226.out 1).trans rfl; have hfz37_0 := blk_frozen BK226.out 0; have hfz37_1 := blk_frozen BK226.out 1; obtain ⟨Ao38, co38, eo38⟩ := Kd.R_slice HO224.out; subst eo38))
    (try simp only [Act.put, List.setIfInBounds_toArray, List.set_cons_zero, List.set_cons_succ])
    go_cut [48] (fun v48 wc => ∃ (kq : Nat) (x48_12 : Bool), v48 = .bool x48_12 ∧ Aside0 (laws_FnExactAddOr.j0 kq a1 a2 t214 t225 x48_12 a0_0 l0_1 t210 t211 t216 t217 t221 t222 = some r) ∧ Aside0 (kq ≤ k) ∧ Aside0 (Kd.R k57 57 wc w.heap.size (fun k_ => some k_ ≠ ((.slice Ao31 t217.length co31) : Value).ownBlock ∧ some k_ ≠ ((.slice Ao38 t222.length co38) : Value).ownBlock) (.slice Ao24 t211.length co24) t211) ∧ Aside0 (Kd.R k57 57 wc w.heap.size (fun k_ => some k_ ≠ ((.slice Ao24 t211.length co24) : Value).ownBlock ∧ some k_ ≠ ((.slice Ao38 t222.length co38) : Value).ownBlock) (.slice Ao31 t217.length co31) t217) ∧ Aside0 (Kd.R k57 57 wc w.heap.size (fun k_ => some k_ ≠ ((.slice Ao24 t211.length co24) : Value).ownBlock ∧ some k_ ≠ ((.slice Ao31 t217.length co31) : Value).ownBlock) (.slice Ao38 t222.length co38) t222) ∧ Aside0 (wc.heap[gb204]? = some (.cells #[.int .i64 a0_0, (.slice A0_1 l0_1.length c0_1)] 24 (0, 0))) ∧ Aside0 (wc.heap[gb215]? = some (.cells #[.int .i64 t210, (.slice Ao24 t211.length co24)] 28 (0, 0))) ∧ Aside0 (wc.heap[gb220]? = some (.cells #[.int .i64 t216, (.slice Ao31 t217.length co31)] 28 (0, 0))) ∧ Aside0 (wc.heap[gb226]? = some (.cells #[.int .i64 t221, (.slice Ao38 t222.length co38)] 28 (0, 0))) ∧ Aside0 (Below w.heap.size w wc))
    case first =>
      have H := HC13.out
      clear HC13
      replace H := Option.bind_eq_some_iff.mp H
      obtain ⟨t227, A390, H⟩ := H
      replace H : (if t227 = true then (laws_FnExactAddOr.j0 k a1 a2 t214 t225 (t225 != t214) a0_0 l0_1 t210 t211 t216 t217 t221 t222) else (laws_FnExactAddOr.j0 k a1 a2 t214 t225 true a0_0 l0_1 t210 t211 t216 t217 t221 t222)) = some r := H
      have A39 := Aside0.mk A390
      clear A390
      by_cases c40 : t227 = true
      · subst c40
        have H1 : (laws_FnExactAddOr.j0 k a1 a2 t214 t225 (t225 != t214) a0_0 l0_1 t210 t211 t216 t217 t221 t222) = some r := by rw [if_pos rfl] at H; exact H
        clear H
        have H := H1
        clear H1
        have H' := Aside0.mk H
        clear H
        have hnb41 := NB226_204.out
        have hnc41 := NB204_226.out
        have hnb42 := NB226_215.out
        have hnc42 := NB215_226.out
        have hnb43 := NB226_220.out
        have hnc43 := NB220_226.out
        have hcz44_0 : w33.cell? ⟨gb226, 0, none⟩ = some (.int .i64 0) := (blk_cell BK226.out 0).trans rfl
        have hcz44_1 : w33.cell? ⟨gb226, 1, none⟩ = some (.slice none 0 0) := (blk_cell BK226.out 1).trans rfl
        have hfz44_0 := blk_frozen BK226.out 0
        have hfz44_1 := blk_frozen BK226.out 1
        have hnb45 := NB215_204.out
        have hnc45 := NB204_215.out
        have hnb46 := NB215_220.out
        have hnc46 := NB220_215.out
        have hcz47_0 : w33.cell? ⟨gb215, 0, none⟩ = some (.int .i64 t210) := (blk_cell BK215.out 0).trans rfl
        have hcz47_1 : w33.cell? ⟨gb215, 1, none⟩ = some (.slice Ao24 t211.length co24) := (blk_cell BK215.out 1).trans rfl
        have hfz47_0 := blk_frozen BK215.out 0
        have hfz47_1 := blk_frozen BK215.out 1
        go_wp2_with (first | ((with_reducible refine gate_callee (f := 10) rfl ?_); refine goesL_ (some 42) rfl rfl Try.func10 (by kernel_rfl) rfl #[.agg #[.int .i64 t221, .slice Ao38 t222.length co38], .agg #[.int .i64 t210, .slice Ao24 t211.length co24]] rfl (by (try simp only [List.map_toArray, List.map_cons, List.map_nil]); first | done | rfl | (simp only [List.length_drop, List.length_take]; rfl)) ?_; (with_reducible refine (laws_eqCircuit.calls k t221 _ _ t222 t210 _ _ t211 true _ ?side1 ?side2 ?side3 ?side4 A39.out).mono ?_); (case side1 => refine (Kd.R_reads' (e := 57) (base := w.heap.size) (ok := fun k_ => (((True ∧ some k_ ≠ (.slice Ao19 t207.length co19 : Value).ownBlock) ∧ some k_ ≠ (.slice Ao24 t211.length co24 : Value).ownBlock) ∧ some k_ ≠ (.slice Ao31 t217.length co31 : Value).ownBlock)) (n := t222.length) (c := co38) ?_).2.2; exact (by (with_reducible repeat (first | apply Kd.R_alloc | apply Kd.R_drewN | apply Kd.R_drew)); exact (Kd.R_mono (Kd.R_far (p := ⟨gb226, 1, none⟩) (Kd.R_far (p := ⟨gb226, 0, none⟩) (Kd.R_types HO224.out BK226.out (by decide)) (fun _ hk => hk.2) (.int .i64 t221)) (fun _ hk => hk.2) (.slice Ao38 t222.length co38)) (fun _ h_ => h_.1)))); (case side2 => exact (Kd.R_reads' HO224.out).2.1); (case side3 => refine (Kd.R_reads' (e := 57) (base := w.heap.size) (ok := fun k_ => (((True ∧ some k_ ≠ (.slice Ao19 t207.length co19 : Value).ownBlock) ∧ some k_ ≠ (.slice Ao31 t217.length co31 : Value).ownBlock) ∧ some k_ ≠ (.slice Ao38 t222.length co38 : Value).ownBlock)) (n := t211.length) (c := co24) ?_).2.2; exact (by (with_reducible repeat (first | apply Kd.R_alloc | apply Kd.R_drewN | apply Kd.R_drew)); exact (Kd.R_mono (Kd.R_far (p := ⟨gb226, 1, none⟩) (Kd.R_far (p := ⟨gb226, 0, none⟩) (Kd.R_types HO213.out BK226.out (by decide)) (fun _ hk => hk.2) (.int .i64 t221)) (fun _ hk => hk.2) (.slice Ao38 t222.length co38)) (fun _ h_ => h_.1)))); (case side4 => exact (Kd.R_reads' HO213.out).2.1); rintro e w48 ⟨rfl, hb⟩; refine ⟨_, rfl, ?_⟩; have n0_ := Aside0.mk (Kd.R_below (by (with_reducible repeat (first | apply Kd.R_alloc | apply Kd.R_drewN | apply Kd.R_drew)); exact (Kd.R_mono (Kd.R_far (p := ⟨gb226, 1, none⟩) (Kd.R_far (p := ⟨gb226, 0, none⟩) (Kd.R_types HO209.out BK226.out (by decide)) (fun _ hk => hk.2) (.int .i64 t221)) (fun _ hk => hk.2) (.slice Ao38 t222.length co38)) (fun _ h_ => h_.1))) hb); have n1_ := Aside0.mk (Kd.R_below (by (with_reducible repeat (first | apply Kd.R_alloc | apply Kd.R_drewN | apply Kd.R_drew)); exact (Kd.R_mono (Kd.R_far (p := ⟨gb226, 1, none⟩) (Kd.R_far (p := ⟨gb226, 0, none⟩) (Kd.R_types HO213.out BK226.out (by decide)) (fun _ hk => hk.2) (.int .i64 t221)) (fun _ hk => hk.2) (.slice Ao38 t222.length co38)) (fun _ h_ => h_.1))) hb); have n2_ := Aside0.mk (Kd.R_below (by (with_reducible repeat (first | apply Kd.R_alloc | apply Kd.R_drewN | apply Kd.R_drew)); exact (Kd.R_mono (Kd.R_far (p := ⟨gb226, 1, none⟩) (Kd.R_far (p := ⟨gb226, 0, none⟩) (Kd.R_types HO219.out BK226.out (by decide)) (fun _ hk => hk.2) (.int .i64 t221)) (fun _ hk => hk.2) (.slice Ao38 t222.length co38)) (fun _ h_ => h_.1))) hb); have n3_ := Aside0.mk (Kd.R_below (by (with_reducible repeat (first | apply Kd.R_alloc | apply Kd.R_drewN | apply Kd.R_drew)); exact (Kd.R_mono (Kd.R_far (p := ⟨gb226, 1, none⟩) (Kd.R_far (p := ⟨gb226, 0, none⟩) (Kd.R_types HO224.out BK226.out (by decide)) (fun _ hk => hk.2) (.int .i64 t221)) (fun _ hk => hk.2) (.slice Ao38 t222.length co38)) (fun _ h_ => h_.1))) hb); have n4_ := Aside0.mk (blk_below (g := gb204) (o := .cells #[.int .i64 a0_0, .slice A0_1 l0_1.length c0_1] 24 (0, 0)) (by (with_reducible repeat (first | refine blk_drewN ?_ _ | refine blk_drew ?_ | refine blk_alloc ?_ _)); refine blk_far ?_ NB204_226.out _; (with_reducible repeat (first | refine blk_drewN ?_ _ | refine blk_drew ?_ | refine blk_alloc ?_ _)); refine blk_far ?_ NB204_226.out _; (with_reducible repeat (first | refine blk_drewN ?_ _ | refine blk_drew ?_ | refine blk_alloc ?_ _)); exact BK204.out) hb); have n5_ := Aside0.mk (blk_below (g := gb215) (o := .cells #[.int .i64 t210, .slice Ao24 t211.length co24] 28 (0, 0)) (by (with_reducible repeat (first | refine blk_drewN ?_ _ | refine blk_drew ?_ | refine blk_alloc ?_ _)); refine blk_far ?_ NB215_226.out _; (with_reducible repeat (first | refine blk_drewN ?_ _ | refine blk_drew ?_ | refine blk_alloc ?_ _)); refine blk_far ?_ NB215_226.out _; (with_reducible repeat (first | refine blk_drewN ?_ _ | refine blk_drew ?_ | refine blk_alloc ?_ _)); exact BK215.out) hb); have n6_ := Aside0.mk (blk_below (g := gb220) (o := .cells #[.int .i64 t216, .slice Ao31 t217.length co31] 28 (0, 0)) (by (with_reducible repeat (first | refine blk_drewN ?_ _ | refine blk_drew ?_ | refine blk_alloc ?_ _)); refine blk_far ?_ NB220_226.out _; (with_reducible repeat (first | refine blk_drewN ?_ _ | refine blk_drew ?_ | refine blk_alloc ?_ _)); refine blk_far ?_ NB220_226.out _; (with_reducible repeat (first | refine blk_drewN ?_ _ | refine blk_drew ?_ | refine blk_alloc ?_ _)); exact BK220.out) hb); have n7_ := Aside0.mk (blk_below (g := gb226) (o := .cells #[.int .i64 t221, .slice Ao38 t222.length co38] 28 (0, 0)) (by (with_reducible repeat (first | refine blk_drewN ?_ _ | refine blk_drew ?_ | refine blk_alloc ?_ _)); refine blk_put (cs := #[.int .i64 t221, .slice none 0 0]) ?_ 1 _ rfl; (with_reducible repeat (first | refine blk_drewN ?_ _ | refine blk_drew ?_ | refine blk_alloc ?_ _)); refine blk_put (cs := #[.int .i64 0, .slice none 0 0]) ?_ 0 _ rfl; (with_reducible repeat (first | refine blk_drewN ?_ _ | refine blk_drew ?_ | refine blk_alloc ?_ _)); exact BK226.out) hb); have n8_ := Aside0.mk (below_step (by repeat (first | (with_reducible first | exact HB.out | apply below_alloc | apply pw_below_drewN | apply below_drew1 | refine below_set ?_ GE204.out | refine below_set ?_ GE215.out | refine below_set ?_ GE220.out | refine below_set ?_ GE226.out) | exact HB.out)) hb); clear HO209; clear HO213; clear HO219; clear HO224; clear BK204; clear BK215; clear BK220; clear BK226; clear HB; have HO209 := n0_; have HO213 := n1_; have HO219 := n2_; have HO224 := n3_; have BK204 := n4_; have BK215 := n5_; have BK220 := n6_; have BK226 := n7_; have HB := n8_; clear n0_ n1_ n2_ n3_ n4_ n5_ n6_ n7_ n8_; (try clear hb); (try clear hb2); (try clear hk); (try clear hi)))
        go_meet
        case rel => exact ⟨_, ((t225 != t214)), (by first | rfl | (simp; done) | (simp [*]; done)), H', ⟨by first | omega | exact Nat.le_refl _⟩, ⟨by (with_reducible repeat (first | apply Kd.R_alloc | apply Kd.R_drewN | apply Kd.R_drew)); exact Kd.R_mono HO213.out (fun _ hk => ⟨hk.1.2, hk.2⟩)⟩, ⟨by (with_reducible repeat (first | apply Kd.R_alloc | apply Kd.R_drewN | apply Kd.R_drew)); exact Kd.R_mono HO219.out (fun _ hk => ⟨hk.1.2, hk.2⟩)⟩, ⟨by (with_reducible repeat (first | apply Kd.R_alloc | apply Kd.R_drewN | apply Kd.R_drew)); exact Kd.R_mono HO224.out (fun _ hk => ⟨hk.1.2, hk.2⟩)⟩, ⟨by (with_reducible repeat (first | refine blk_drewN ?_ _ | refine blk_drew ?_ | refine blk_alloc ?_ _)); exact BK204.out⟩, ⟨by (with_reducible repeat (first | refine blk_drewN ?_ _ | refine blk_drew ?_ | refine blk_alloc ?_ _)); exact BK215.out⟩, ⟨by (with_reducible repeat (first | refine blk_drewN ?_ _ | refine blk_drew ?_ | refine blk_alloc ?_ _)); exact BK220.out⟩, ⟨by (with_reducible repeat (first | refine blk_drewN ?_ _ | refine blk_drew ?_ | refine blk_alloc ?_ _)); exact BK226.out⟩, ⟨by repeat (first | (with_reducible first | exact HB.out | apply below_alloc | apply pw_below_drewN | apply below_drew1 | refine below_set ?_ GE204.out | refine below_set ?_ GE215.out | refine below_set ?_ GE220.out | refine below_set ?_ GE226.out) | exact HB.out)⟩⟩
      · replace c40 := Bool.eq_false_iff.mpr c40
        subst c40
        have H1 : (laws_FnExactAddOr.j0 k a1 a2 t214 t225 true a0_0 l0_1 t210 t211 t216 t217 t221 t222) = some r := by rw [if_neg (show ¬ (false = true) by decide)] at H; exact H
        clear H
        have H := H1
        clear H1
        have H' := Aside0.mk H
        clear H
        have hnb49 := NB226_204.out
        have hnc49 := NB204_226.out
        have hnb50 := NB226_215.out
        have hnc50 := NB215_226.out
        have hnb51 := NB226_220.out
        have hnc51 := NB220_226.out
        have hcz52_0 : w33.cell? ⟨gb226, 0, none⟩ = some (.int .i64 0) := (blk_cell BK226.out 0).trans rfl
        have hcz52_1 : w33.cell? ⟨gb226, 1, none⟩ = some (.slice none 0 0) := (blk_cell BK226.out 1).trans rfl
        have hfz52_0 := blk_frozen BK226.out 0
        have hfz52_1 := blk_frozen BK226.out 1
        have hnb53 := NB215_204.out
        have hnc53 := NB204_215.out
        have hnb54 := NB215_220.out
        have hnc54 := NB220_215.out
        have hcz55_0 : w33.cell? ⟨gb215, 0, none⟩ = some (.int .i64 t210) := (blk_cell BK215.out 0).trans rfl
        have hcz55_1 : w33.cell? ⟨gb215, 1, none⟩ = some (.slice Ao24 t211.length co24) := (blk_cell BK215.out 1).trans rfl
        have hfz55_0 := blk_frozen BK215.out 0
        have hfz55_1 := blk_frozen BK215.out 1
        go_wp2_with (first | ((with_reducible refine gate_callee (f := 10) rfl ?_); refine goesL_ (some 42) rfl rfl Try.func10 (by kernel_rfl) rfl #[.agg #[.int .i64 t221, .slice Ao38 t222.length co38], .agg #[.int .i64 t210, .slice Ao24 t211.length co24]] rfl (by (try simp only [List.map_toArray, List.map_cons, List.map_nil]); first | done | rfl | (simp only [List.length_drop, List.length_take]; rfl)) ?_; (with_reducible refine (laws_eqCircuit.calls k t221 _ _ t222 t210 _ _ t211 false _ ?side1 ?side2 ?side3 ?side4 A39.out).mono ?_); (case side1 => refine (Kd.R_reads' (e := 57) (base := w.heap.size) (ok := fun k_ => (((True ∧ some k_ ≠ (.slice Ao19 t207.length co19 : Value).ownBlock) ∧ some k_ ≠ (.slice Ao24 t211.length co24 : Value).ownBlock) ∧ some k_ ≠ (.slice Ao31 t217.length co31 : Value).ownBlock)) (n := t222.length) (c := co38) ?_).2.2; exact (by (with_reducible repeat (first | apply Kd.R_alloc | apply Kd.R_drewN | apply Kd.R_drew)); exact (Kd.R_mono (Kd.R_far (p := ⟨gb226, 1, none⟩) (Kd.R_far (p := ⟨gb226, 0, none⟩) (Kd.R_types HO224.out BK226.out (by decide)) (fun _ hk => hk.2) (.int .i64 t221)) (fun _ hk => hk.2) (.slice Ao38 t222.length co38)) (fun _ h_ => h_.1)))); (case side2 => exact (Kd.R_reads' HO224.out).2.1); (case side3 => refine (Kd.R_reads' (e := 57) (base := w.heap.size) (ok := fun k_ => (((True ∧ some k_ ≠ (.slice Ao19 t207.length co19 : Value).ownBlock) ∧ some k_ ≠ (.slice Ao31 t217.length co31 : Value).ownBlock) ∧ some k_ ≠ (.slice Ao38 t222.length co38 : Value).ownBlock)) (n := t211.length) (c := co24) ?_).2.2; exact (by (with_reducible repeat (first | apply Kd.R_alloc | apply Kd.R_drewN | apply Kd.R_drew)); exact (Kd.R_mono (Kd.R_far (p := ⟨gb226, 1, none⟩) (Kd.R_far (p := ⟨gb226, 0, none⟩) (Kd.R_types HO213.out BK226.out (by decide)) (fun _ hk => hk.2) (.int .i64 t221)) (fun _ hk => hk.2) (.slice Ao38 t222.length co38)) (fun _ h_ => h_.1)))); (case side4 => exact (Kd.R_reads' HO213.out).2.1); rintro e w56 ⟨rfl, hb⟩; refine ⟨_, rfl, ?_⟩; have n0_ := Aside0.mk (Kd.R_below (by (with_reducible repeat (first | apply Kd.R_alloc | apply Kd.R_drewN | apply Kd.R_drew)); exact (Kd.R_mono (Kd.R_far (p := ⟨gb226, 1, none⟩) (Kd.R_far (p := ⟨gb226, 0, none⟩) (Kd.R_types HO209.out BK226.out (by decide)) (fun _ hk => hk.2) (.int .i64 t221)) (fun _ hk => hk.2) (.slice Ao38 t222.length co38)) (fun _ h_ => h_.1))) hb); have n1_ := Aside0.mk (Kd.R_below (by (with_reducible repeat (first | apply Kd.R_alloc | apply Kd.R_drewN | apply Kd.R_drew)); exact (Kd.R_mono (Kd.R_far (p := ⟨gb226, 1, none⟩) (Kd.R_far (p := ⟨gb226, 0, none⟩) (Kd.R_types HO213.out BK226.out (by decide)) (fun _ hk => hk.2) (.int .i64 t221)) (fun _ hk => hk.2) (.slice Ao38 t222.length co38)) (fun _ h_ => h_.1))) hb); have n2_ := Aside0.mk (Kd.R_below (by (with_reducible repeat (first | apply Kd.R_alloc | apply Kd.R_drewN | apply Kd.R_drew)); exact (Kd.R_mono (Kd.R_far (p := ⟨gb226, 1, none⟩) (Kd.R_far (p := ⟨gb226, 0, none⟩) (Kd.R_types HO219.out BK226.out (by decide)) (fun _ hk => hk.2) (.int .i64 t221)) (fun _ hk => hk.2) (.slice Ao38 t222.length co38)) (fun _ h_ => h_.1))) hb); have n3_ := Aside0.mk (Kd.R_below (by (with_reducible repeat (first | apply Kd.R_alloc | apply Kd.R_drewN | apply Kd.R_drew)); exact (Kd.R_mono (Kd.R_far (p := ⟨gb226, 1, none⟩) (Kd.R_far (p := ⟨gb226, 0, none⟩) (Kd.R_types HO224.out BK226.out (by decide)) (fun _ hk => hk.2) (.int .i64 t221)) (fun _ hk => hk.2) (.slice Ao38 t222.length co38)) (fun _ h_ => h_.1))) hb); have n4_ := Aside0.mk (blk_below (g := gb204) (o := .cells #[.int .i64 a0_0, .slice A0_1 l0_1.length c0_1] 24 (0, 0)) (by (with_reducible repeat (first | refine blk_drewN ?_ _ | refine blk_drew ?_ | refine blk_alloc ?_ _)); refine blk_far ?_ NB204_226.out _; (with_reducible repeat (first | refine blk_drewN ?_ _ | refine blk_drew ?_ | refine blk_alloc ?_ _)); refine blk_far ?_ NB204_226.out _; (with_reducible repeat (first | refine blk_drewN ?_ _ | refine blk_drew ?_ | refine blk_alloc ?_ _)); exact BK204.out) hb); have n5_ := Aside0.mk (blk_below (g := gb215) (o := .cells #[.int .i64 t210, .slice Ao24 t211.length co24] 28 (0, 0)) (by (with_reducible repeat (first | refine blk_drewN ?_ _ | refine blk_drew ?_ | refine blk_alloc ?_ _)); refine blk_far ?_ NB215_226.out _; (with_reducible repeat (first | refine blk_drewN ?_ _ | refine blk_drew ?_ | refine blk_alloc ?_ _)); refine blk_far ?_ NB215_226.out _; (with_reducible repeat (first | refine blk_drewN ?_ _ | refine blk_drew ?_ | refine blk_alloc ?_ _)); exact BK215.out) hb); have n6_ := Aside0.mk (blk_below (g := gb220) (o := .cells #[.int .i64 t216, .slice Ao31 t217.length co31] 28 (0, 0)) (by (with_reducible repeat (first | refine blk_drewN ?_ _ | refine blk_drew ?_ | refine blk_alloc ?_ _)); refine blk_far ?_ NB220_226.out _; (with_reducible repeat (first | refine blk_drewN ?_ _ | refine blk_drew ?_ | refine blk_alloc ?_ _)); refine blk_far ?_ NB220_226.out _; (with_reducible repeat (first | refine blk_drewN ?_ _ | refine blk_drew ?_ | refine blk_alloc ?_ _)); exact BK220.out) hb); have n7_ := Aside0.mk (blk_below (g := gb226) (o := .cells #[.int .i64 t221, .slice Ao38 t222.length co38] 28 (0, 0)) (by (with_reducible repeat (first | refine blk_drewN ?_ _ | refine blk_drew ?_ | refine blk_alloc ?_ _)); refine blk_put (cs := #[.int .i64 t221, .slice none 0 0]) ?_ 1 _ rfl; (with_reducible repeat (first | refine blk_drewN ?_ _ | refine blk_drew ?_ | refine blk_alloc ?_ _)); refine blk_put (cs := #[.int .i64 0, .slice none 0 0]) ?_ 0 _ rfl; (with_reducible repeat (first | refine blk_drewN ?_ _ | refine blk_drew ?_ | refine blk_alloc ?_ _)); exact BK226.out) hb); have n8_ := Aside0.mk (below_step (by repeat (first | (with_reducible first | exact HB.out | apply below_alloc | apply pw_below_drewN | apply below_drew1 | refine below_set ?_ GE204.out | refine below_set ?_ GE215.out | refine below_set ?_ GE220.out | refine below_set ?_ GE226.out) | exact HB.out)) hb); clear HO209; clear HO213; clear HO219; clear HO224; clear BK204; clear BK215; clear BK220; clear BK226; clear HB; have HO209 := n0_; have HO213 := n1_; have HO219 := n2_; have HO224 := n3_; have BK204 := n4_; have BK215 := n5_; have BK220 := n6_; have BK226 := n7_; have HB := n8_; clear n0_ n1_ n2_ n3_ n4_ n5_ n6_ n7_ n8_; (try clear hb); (try clear hb2); (try clear hk); (try clear hi)))
        go_meet
        case rel => exact ⟨_, (true), (by first | rfl | (simp; done) | (simp [*]; done)), H', ⟨by first | omega | exact Nat.le_refl _⟩, ⟨by (with_reducible repeat (first | apply Kd.R_alloc | apply Kd.R_drewN | apply Kd.R_drew)); exact Kd.R_mono HO213.out (fun _ hk => ⟨hk.1.2, hk.2⟩)⟩, ⟨by (with_reducible repeat (first | apply Kd.R_alloc | apply Kd.R_drewN | apply Kd.R_drew)); exact Kd.R_mono HO219.out (fun _ hk => ⟨hk.1.2, hk.2⟩)⟩, ⟨by (with_reducible repeat (first | apply Kd.R_alloc | apply Kd.R_drewN | apply Kd.R_drew)); exact Kd.R_mono HO224.out (fun _ hk => ⟨hk.1.2, hk.2⟩)⟩, ⟨by (with_reducible repeat (first | refine blk_drewN ?_ _ | refine blk_drew ?_ | refine blk_alloc ?_ _)); exact BK204.out⟩, ⟨by (with_reducible repeat (first | refine blk_drewN ?_ _ | refine blk_drew ?_ | refine blk_alloc ?_ _)); exact BK215.out⟩, ⟨by (with_reducible repeat (first | refine blk_drewN ?_ _ | refine blk_drew ?_ | refine blk_alloc ?_ _)); exact BK220.out⟩, ⟨by (with_reducible repeat (first | refine blk_drewN ?_ _ | refine blk_drew ?_ | refine blk_alloc ?_ _)); exact BK226.out⟩, ⟨by repeat (first | (with_reducible first | exact HB.out | apply below_alloc | apply pw_below_drewN | apply below_drew1 | refine below_set ?_ GE204.out | refine below_set ?_ GE215.out | refine below_set ?_ GE220.out | refine below_set ?_ GE226.out) | exact HB.out)⟩⟩
    case rest =>
      clear HC13
      try clear c1
      try clear c2
      try clear p2
      try clear c3
      try clear c4
      try clear c5
      try clear c5b0
      try clear c6
      try clear c8
      try clear c10
      try clear c13
      try clear c14
      try clear c22
      try clear c28
      try clear c29
      try clear c34
      try clear c35
      try clear c36
      try clear c40
      try clear c41
      try clear c42
      try clear c43
      try clear c45
      try clear c46
      try clear c49
      try clear c50
      try clear c51
      try clear c53
      try clear c54
      try clear hcz15_0
      try clear hcz15_1
      try clear hcz17_0
      try clear hcz17_1
      try clear hcz23_0
      try clear hcz23_1
      try clear hcz25_0
      try clear hcz25_1
      try clear hcz30_0
      try clear hcz30_1
      try clear hcz37_0
      try clear hcz37_1
      try clear hcz44_0
      try clear hcz44_1
      try clear hcz47_0
      try clear hcz47_1
      try clear hcz52_0
      try clear hcz52_1
      try clear hcz55_0
      try clear hcz55_1
      try clear hcz7_0
      try clear hcz7_1
      try clear hfz15_0
      try clear hfz15_1
      try clear hfz17_0
      try clear hfz17_1
      try clear hfz23_0
      try clear hfz23_1
      try clear hfz25_0
      try clear hfz25_1
      try clear hfz30_0
      try clear hfz30_1
      try clear hfz37_0
      try clear hfz37_1
      try clear hfz44_0
      try clear hfz44_1
      try clear hfz47_0
      try clear hfz47_1
      try clear hfz52_0
      try clear hfz52_1
      try clear hfz55_0
      try clear hfz55_1
      try clear hfz7_0
      try clear hfz7_1
      obtain ⟨kq, x48_12, rfl, HA, HJ12, HO_216001, HO_221001, HO_227001, BK204, BK215, BK220, BK226, HB⟩ := hcut
      cases kq with
      | zero => exact absurd HA.out (by simp [laws_FnExactAddOr.j0])
      | succ kj12 =>
        have H := HA.out
        clear HA
        simp only [laws_FnExactAddOr.j0] at H
        by_cases c57 : x48_12 = true
        · subst c57
          have H1 : (some false) = some r := by rw [if_pos rfl] at H; exact H
          clear H
          have H := H1
          clear H1
          obtain rfl := Option.some.inj H
          go_wp2
          go_ret
          exact ⟨by first | rfl | (simp [errW_none, errW_some] <;> rfl) | (simp [*, errW_none, errW_some] <;> rfl), by repeat (first | (with_reducible first | exact HB.out | apply below_alloc | apply pw_below_drewN | apply below_drew1 | refine below_set ?_ GE204.out | refine below_set ?_ GE215.out | refine below_set ?_ GE220.out | refine below_set ?_ GE226.out) | exact HB.out)⟩
        · replace c57 := Bool.eq_false_iff.mpr c57
          subst c57
          have H1 : ((laws_toCircuit.f kj12 a0_0 l0_1).bind fun bt228 => ((laws_eqCircuit.f kj12 t216 t217 bt228.1 bt228.2).bind fun t232 => (if t232 = true then ((laws_markCircuit.f kj12 t216 t217 1).bind fun bt233 => (if bt233.1 < 0 then (laws_FnExactAddOr.j1 kj12 a1 a2 t214 true a0_0 l0_1 t210 t211 t221 t222) else ((laws_eqCircuit.f kj12 t221 t222 t210 t211).bind fun t235 => (if t235 = true then (laws_FnExactAddOr.j1 kj12 a1 a2 t214 (t225 != t214) a0_0 l0_1 t210 t211 t221 t222) else (laws_FnExactAddOr.j1 kj12 a1 a2 t214 true a0_0 l0_1 t210 t211 t221 t222))))) else (some false)))) = some r := by rw [if_neg (show ¬ (false = true) by decide)] at H; exact H
          clear H
          have H := H1
          clear H1
          replace H := Option.bind_eq_some_iff.mp H
          obtain ⟨⟨t228, t229⟩, A580, H⟩ := H
          replace H : ((laws_eqCircuit.f kj12 t216 t217 t228 t229).bind fun t232 => (if t232 = true then ((laws_markCircuit.f kj12 t216 t217 1).bind fun bt233 => (if bt233.1 < 0 then (laws_FnExactAddOr.j1 kj12 a1 a2 t214 true a0_0 l0_1 t210 t211 t221 t222) else ((laws_eqCircuit.f kj12 t221 t222 t210 t211).bind fun t235 => (if t235 = true then (laws_FnExactAddOr.j1 kj12 a1 a2 t214 (t225 != t214) a0_0 l0_1 t210 t211 t221 t222) else (laws_FnExactAddOr.j1 kj12 a1 a2 t214 true a0_0 l0_1 t210 t211 t221 t222))))) else (some false))) = some r := H
          have A58 := Aside0.mk A580
          clear A580
          replace H := Option.bind_eq_some_iff.mp H
          obtain ⟨t232, A590, H⟩ := H
          replace H : (if t232 = true then ((laws_markCircuit.f kj12 t216 t217 1).bind fun bt233 => (if bt233.1 < 0 then (laws_FnExactAddOr.j1 kj12 a1 a2 t214 true a0_0 l0_1 t210 t211 t221 t222) else ((laws_eqCircuit.f kj12 t221 t222 t210 t211).bind fun t235 => (if t235 = true then (laws_FnExactAddOr.j1 kj12 a1 a2 t214 (t225 != t214) a0_0 l0_1 t210 t211 t221 t222) else (laws_FnExactAddOr.j1 kj12 a1 a2 t214 true a0_0 l0_1 t210 t211 t221 t222))))) else (some false)) = some r := H
          have A59 := Aside0.mk A590
          clear A590
          by_cases c60 : t232 = true
          · subst c60
            have H1 : ((laws_markCircuit.f kj12 t216 t217 1).bind fun bt233 => (if bt233.1 < 0 then (laws_FnExactAddOr.j1 kj12 a1 a2 t214 true a0_0 l0_1 t210 t211 t221 t222) else ((laws_eqCircuit.f kj12 t221 t222 t210 t211).bind fun t235 => (if t235 = true then (laws_FnExactAddOr.j1 kj12 a1 a2 t214 (t225 != t214) a0_0 l0_1 t210 t211 t221 t222) else (laws_FnExactAddOr.j1 kj12 a1 a2 t214 true a0_0 l0_1 t210 t211 t221 t222))))) = some r := by rw [if_pos rfl] at H; exact H
            clear H
            have H := H1
            clear H1
            replace H := Option.bind_eq_some_iff.mp H
            obtain ⟨⟨t233, t234⟩, A610, H⟩ := H
            replace H : (if t233 < 0 then (laws_FnExactAddOr.j1 kj12 a1 a2 t214 true a0_0 l0_1 t210 t211 t221 t222) else ((laws_eqCircuit.f kj12 t221 t222 t210 t211).bind fun t235 => (if t235 = true then (laws_FnExactAddOr.j1 kj12 a1 a2 t214 (t225 != t214) a0_0 l0_1 t210 t211 t221 t222) else (laws_FnExactAddOr.j1 kj12 a1 a2 t214 true a0_0 l0_1 t210 t211 t221 t222)))) = some r := H
            have A61 := Aside0.mk A610
            clear A610
            have HC62 := Aside0.mk H
            clear H
            try go_wp2
            have n0_ := Aside0.mk (Kd.R_drew HO_216001.out)
            have n1_ := Aside0.mk (Kd.R_drew HO_221001.out)
            have n2_ := Aside0.mk (Kd.R_drew HO_227001.out)
            have n3_ := Aside0.mk (blk_drew BK204.out)
            have n4_ := Aside0.mk (blk_drew BK215.out)
            have n5_ := Aside0.mk (blk_drew BK220.out)
            have n6_ := Aside0.mk (blk_drew BK226.out)
            have n7_ := Aside0.mk (below_drew1 HB.out)
            clear HO_216001
            clear HO_221001
            clear HO_227001
            clear BK204
            clear BK215
            clear BK220
            clear BK226
            clear HB
            have HO_216001 := n0_
            have HO_221001 := n1_
            have HO_227001 := n2_
            have BK204 := n3_
            have BK215 := n4_
            have BK220 := n5_
            have BK226 := n6_
            have HB := n7_
            clear n0_ n1_ n2_ n3_ n4_ n5_ n6_ n7_
            refine start_ (n := 5) (S := fun w' => w'.cell? ⟨gb220, 0, none⟩ = some (.int .i64 t216) ∧ w'.cell? ⟨gb220, 1, none⟩ = some (.slice Ao31 t217.length co31) ∧ w'.cell? ⟨gb204, 0, none⟩ = some (.int .i64 a0_0) ∧ w'.cell? ⟨gb204, 1, none⟩ = some (.slice A0_1 l0_1.length c0_1)) (ds := []) #[false, false, false, false, false] (by kernel_rfl) rfl rfl ⟨(blk_cell BK220.out 0).trans rfl, (blk_cell BK220.out 1).trans rfl, (blk_cell BK204.out 0).trans rfl, (blk_cell BK204.out 1).trans rfl⟩ (fun hHeld => ?_)
            generalize wc.drew = w63 at HO_216001 HO_221001 HO_227001 BK204 BK215 BK220 BK226 HB hHeld ⊢
            refine take_ (i := 0) (N := some 49) (v := ?_) (a' := ?_) #[true, false, false, false, false] rfl rfl (by kernel_rfl) (fun _ _ _ h => h) (Or.inl ⟨by rfl, ?_⟩) hHeld ?_ ?_
            rotate_left
            · rintro w' ⟨s0, s1, s2, s3⟩
              go_simp
              with_reducible rfl
            rotate_left
            · simp only [Act.put, List.setIfInBounds_toArray, List.set_cons_zero, List.set_cons_succ, i64_w, i32_w]
              rfl
            refine take_ (i := 1) (N := some 50) (v := ?_) (a' := ?_) #[true, true, false, false, false] rfl rfl (by kernel_rfl) (fun _ _ _ h => h) (Or.inl ⟨by rfl, ?_⟩) hHeld ?_ ?_
            rotate_left
            · rintro w' ⟨s0, s1, s2, s3⟩
              go_simp
              with_reducible rfl
            rotate_left
            · simp only [Act.put, List.setIfInBounds_toArray, List.set_cons_zero, List.set_cons_succ, i64_w, i32_w]
              rfl
            refine one_ (i := 2) (N := some 51) #[true, true, true, false, false] rfl rfl (by kernel_rfl) (by decide) (fun K hK => ?_)
            refine goes_ Try.func8 (by kernel_rfl) rfl #[.agg #[.int .i64 a0_0, .slice A0_1 l0_1.length c0_1]] (by rfl) rfl rfl (by (try simp only [List.map_toArray, List.map_cons, List.map_nil]); first | done | rfl | (simp only [List.length_drop, List.length_take]; rfl)) ?_
            with_reducible refine (laws_toCircuit.calls kj12 a0_0 _ _ l0_1 t228 t229 _ ?side1 ?side2 A58.out).mono ?_
            (case side1 => repeat (first | exact (Kd.C_below HR0_1.out HB.out) | (with_reducible refine Kd.C_alloc ?_ _) | (with_reducible refine Kd.C_drewN ?_ _) | (with_reducible refine Kd.C_drew ?_)))
            (case side2 => exact HC0_1.out)
            rintro e w64 ⟨v230, rfl, ho0, hb⟩
            refine ⟨_, rfl, ?_⟩
            have n0_ := Aside0.mk (Kd.R_elder' (by (with_reducible repeat (first | apply Kd.R_alloc | apply Kd.R_drewN | apply Kd.R_drew)); exact HO_216001.out) (Kd.R_base ho0) hb)
            have n1_ := Aside0.mk (Kd.R_elder' (by (with_reducible repeat (first | apply Kd.R_alloc | apply Kd.R_drewN | apply Kd.R_drew)); exact HO_221001.out) (Kd.R_base ho0) hb)
            have n2_ := Aside0.mk (Kd.R_elder' (by (with_reducible repeat (first | apply Kd.R_alloc | apply Kd.R_drewN | apply Kd.R_drew)); exact HO_227001.out) (Kd.R_base ho0) hb)
            have n3_ := Aside0.mk (Kd.R_lower (Kd.R_new' (Kd.R_new' (Kd.R_new' ho0 (Kd.R_lt (by (with_reducible repeat (first | apply Kd.R_alloc | apply Kd.R_drewN | apply Kd.R_drew)); exact HO_216001.out))) (Kd.R_lt (by (with_reducible repeat (first | apply Kd.R_alloc | apply Kd.R_drewN | apply Kd.R_drew)); exact HO_221001.out))) (Kd.R_lt (by (with_reducible repeat (first | apply Kd.R_alloc | apply Kd.R_drewN | apply Kd.R_drew)); exact HO_227001.out))) (below_size (by repeat (first | (with_reducible first | exact HB.out | apply below_alloc | apply pw_below_drewN | apply below_drew1 | refine below_set ?_ GE204.out | refine below_set ?_ GE215.out | refine below_set ?_ GE220.out | refine below_set ?_ GE226.out) | exact HB.out))))
            have n4_ := Aside0.mk (blk_below (g := gb204) (o := .cells #[.int .i64 a0_0, .slice A0_1 l0_1.length c0_1] 24 (0, 0)) (by (with_reducible repeat (first | refine blk_drewN ?_ _ | refine blk_drew ?_ | refine blk_alloc ?_ _)); exact BK204.out) hb)
            have n5_ := Aside0.mk (blk_below (g := gb215) (o := .cells #[.int .i64 t210, .slice Ao24 t211.length co24] 28 (0, 0)) (by (with_reducible repeat (first | refine blk_drewN ?_ _ | refine blk_drew ?_ | refine blk_alloc ?_ _)); exact BK215.out) hb)
            have n6_ := Aside0.mk (blk_below (g := gb220) (o := .cells #[.int .i64 t216, .slice Ao31 t217.length co31] 28 (0, 0)) (by (with_reducible repeat (first | refine blk_drewN ?_ _ | refine blk_drew ?_ | refine blk_alloc ?_ _)); exact BK220.out) hb)
            have n7_ := Aside0.mk (blk_below (g := gb226) (o := .cells #[.int .i64 t221, .slice Ao38 t222.length co38] 28 (0, 0)) (by (with_reducible repeat (first | refine blk_drewN ?_ _ | refine blk_drew ?_ | refine blk_alloc ?_ _)); exact BK226.out) hb)
            have n8_ := Aside0.mk (below_step (by repeat (first | (with_reducible first | exact HB.out | apply below_alloc | apply pw_below_drewN | apply below_drew1 | refine below_set ?_ GE204.out | refine below_set ?_ GE215.out | refine below_set ?_ GE220.out | refine below_set ?_ GE226.out) | exact HB.out)) hb)
            clear HO_216001
            clear HO_221001
            clear HO_227001
            clear BK204
            clear BK215
            clear BK220
            clear BK226
            clear HB
            have HO_216001 := n0_
            have HO_221001 := n1_
            have HO_227001 := n2_
            have HO231 := n3_
            have BK204 := n4_
            have BK215 := n5_
            have BK220 := n6_
            have BK226 := n7_
            have HB := n8_
            clear n0_ n1_ n2_ n3_ n4_ n5_ n6_ n7_ n8_
            (try clear hb)
            (try clear hb2)
            (try clear hk)
            (try clear hi)
            (try clear ho0)
            obtain ⟨Ao65, co65, eo65⟩ := Kd.R_slice HO231.out
            (first | subst eo65 | (injection eo65 with f1_ f2_ f3_; have f4_ := f1_.symm; have f5_ := f3_.symm; clear f1_ f2_ f3_; subst f4_; subst f5_))
            refine hK.out _ _ ⟨(blk_cell BK220.out 0).trans rfl, (blk_cell BK220.out 1).trans rfl, (blk_cell BK204.out 0).trans rfl, (blk_cell BK204.out 1).trans rfl⟩ (fun hHeld => ?_)
            clear hK K
            refine norm_ (a' := ?_) ?_ ?_
            rotate_left
            · show Act.put _ (some 51) _ = _
              simp only [Act.put, List.setIfInBounds_toArray, List.set_cons_zero, List.set_cons_succ, i64_w, i32_w]
              rfl
            refine one_ (i := 3) (N := some 52) #[true, true, true, true, false] rfl rfl (by kernel_rfl) (by decide) (fun K hK => ?_)
            refine goes_ Try.func10 (by kernel_rfl) rfl #[.agg #[.int .i64 t216, .slice Ao31 t217.length co31], .agg #[.int .i64 t228, .slice Ao65 t229.length co65]] (by rfl) rfl rfl (by (try simp only [List.map_toArray, List.map_cons, List.map_nil]); first | done | rfl | (simp only [List.length_drop, List.length_take]; rfl)) ?_
            with_reducible refine (laws_eqCircuit.calls kj12 t216 _ _ t217 t228 _ _ t229 true _ ?side1 ?side2 ?side3 ?side4 A59.out).mono ?_
            (case side1 => repeat (first | exact (Kd.R_reads' HO_221001.out).2.2 | (with_reducible refine Kd.C_alloc ?_ _) | (with_reducible refine Kd.C_drewN ?_ _) | (with_reducible refine Kd.C_drew ?_)))
            (case side2 => exact (Kd.R_reads' HO_221001.out).2.1)
            (case side3 => repeat (first | exact (Kd.R_reads' HO231.out).2.2 | (with_reducible refine Kd.C_alloc ?_ _) | (with_reducible refine Kd.C_drewN ?_ _) | (with_reducible refine Kd.C_drew ?_)))
            (case side4 => exact (Kd.R_reads' HO231.out).2.1)
            rintro e w66 ⟨rfl, hb⟩
            refine ⟨_, rfl, ?_⟩
            have n0_ := Aside0.mk (Kd.R_below (by (with_reducible repeat (first | apply Kd.R_alloc | apply Kd.R_drewN | apply Kd.R_drew)); exact HO_216001.out) hb)
            have n1_ := Aside0.mk (Kd.R_below (by (with_reducible repeat (first | apply Kd.R_alloc | apply Kd.R_drewN | apply Kd.R_drew)); exact HO_221001.out) hb)
            have n2_ := Aside0.mk (Kd.R_below (by (with_reducible repeat (first | apply Kd.R_alloc | apply Kd.R_drewN | apply Kd.R_drew)); exact HO_227001.out) hb)
            have n3_ := Aside0.mk (Kd.R_below (by (with_reducible repeat (first | apply Kd.R_alloc | apply Kd.R_drewN | apply Kd.R_drew)); exact HO231.out) hb)
            have n4_ := Aside0.mk (blk_below (g := gb204) (o := .cells #[.int .i64 a0_0, .slice A0_1 l0_1.length c0_1] 24 (0, 0)) (by (with_reducible repeat (first | refine blk_drewN ?_ _ | refine blk_drew ?_ | refine blk_alloc ?_ _)); exact BK204.out) hb)
            have n5_ := Aside0.mk (blk_below (g := gb215) (o := .cells #[.int .i64 t210, .slice Ao24 t211.length co24] 28 (0, 0)) (by (with_reducible repeat (first | refine blk_drewN ?_ _ | refine blk_drew ?_ | refine blk_alloc ?_ _)); exact BK215.out) hb)
            have n6_ := Aside0.mk (blk_below (g := gb220) (o := .cells #[.int .i64 t216, .slice Ao31 t217.length co31] 28 (0, 0)) (by (with_reducible repeat (first | refine blk_drewN ?_ _ | refine blk_drew ?_ | refine blk_alloc ?_ _)); exact BK220.out) hb)
            have n7_ := Aside0.mk (blk_below (g := gb226) (o := .cells #[.int .i64 t221, .slice Ao38 t222.length co38] 28 (0, 0)) (by (with_reducible repeat (first | refine blk_drewN ?_ _ | refine blk_drew ?_ | refine blk_alloc ?_ _)); exact BK226.out) hb)
            have n8_ := Aside0.mk (below_step (by repeat (first | (with_reducible first | exact HB.out | apply below_alloc | apply pw_below_drewN | apply below_drew1 | refine below_set ?_ GE204.out | refine below_set ?_ GE215.out | refine below_set ?_ GE220.out | refine below_set ?_ GE226.out) | exact HB.out)) hb)
            clear HO_216001
            clear HO_221001
            clear HO_227001
            clear HO231
            clear BK204
            clear BK215
            clear BK220
            clear BK226
            clear HB
            have HO_216001 := n0_
            have HO_221001 := n1_
            have HO_227001 := n2_
            have HO231 := n3_
            have BK204 := n4_
            have BK215 := n5_
            have BK220 := n6_
            have BK226 := n7_
            have HB := n8_
            clear n0_ n1_ n2_ n3_ n4_ n5_ n6_ n7_ n8_
            (try clear hb)
            (try clear hb2)
            (try clear hk)
            (try clear hi)
            refine hK.out _ _ ⟨(blk_cell BK220.out 0).trans rfl, (blk_cell BK220.out 1).trans rfl, (blk_cell BK204.out 0).trans rfl, (blk_cell BK204.out 1).trans rfl⟩ (fun hHeld => ?_)
            clear hK K
            refine norm_ (a' := ?_) ?_ ?_
            rotate_left
            · show Act.put _ (some 52) _ = _
              simp only [Act.put, List.setIfInBounds_toArray, List.set_cons_zero, List.set_cons_succ, i64_w, i32_w]
              rfl
            refine pure_ (i := 4) (N := some 53) (v := ?_) (a' := ?_) #[true, true, true, true, true] rfl rfl (by kernel_rfl) (fun _ _ _ h => h) (Or.inl ⟨by rfl, ?_⟩) ?_ ?_
            rotate_left
            · intro w'
              go_simp
              with_reducible rfl
            rotate_left
            · simp only [Act.put, List.setIfInBounds_toArray, List.set_cons_zero, List.set_cons_succ, i64_w, i32_w]
              rfl
            refine done_ (by kernel_rfl) ?_
            have hnb67 := NB220_204.out
            have hnc67 := NB204_220.out
            have hnb68 := NB220_215.out
            have hnc68 := NB215_220.out
            have hnb69 := NB220_226.out
            have hnc69 := NB226_220.out
            have hcz70_0 : w66.cell? ⟨gb220, 0, none⟩ = some (.int .i64 t216) := (blk_cell BK220.out 0).trans rfl
            have hcz70_1 : w66.cell? ⟨gb220, 1, none⟩ = some (.slice Ao31 t217.length co31) := (blk_cell BK220.out 1).trans rfl
            have hfz70_0 := blk_frozen BK220.out 0
            have hfz70_1 := blk_frozen BK220.out 1
            go_upto_region 14 with (first | ((with_reducible refine gate_callee (f := 11) rfl ?_); refine goesL_ (some 56) rfl rfl Try.func11 (by kernel_rfl) rfl #[.agg #[.int .i64 t216, .slice Ao31 t217.length co31], .int .i64 1] rfl (by (try simp only [List.map_toArray, List.map_cons, List.map_nil]); first | done | rfl | (simp only [List.length_drop, List.length_take]; rfl)) ?_; (with_reducible refine (laws_markCircuit.calls kj12 t216 (fun k_ => some k_ = (.slice Ao31 t217.length co31 : Value).ownBlock) (.slice Ao31 t217.length co31) t217 1 t233 t234 w _ ?side1 ?side2 A61.out).mono ?_); (case side1 => repeat (first | (with_reducible first | exact HB.out | apply below_alloc | apply pw_below_drewN | apply below_drew1 | refine below_set ?_ GE204.out | refine below_set ?_ GE215.out | refine below_set ?_ GE220.out | refine below_set ?_ GE226.out) | exact HB.out)); (case side2 => exact Kd.R_tight rfl HO_221001.out); rintro e w71 ⟨rfl, hy0, hb, hkp⟩; refine ⟨_, rfl, ?_⟩; have n0_ := Aside0.mk (Kd.R_mono (ok' := fun k_ => some k_ ≠ (.slice Ao31 t217.length co31 : Value).ownBlock ∧ some k_ ≠ (.slice Ao38 t222.length co38 : Value).ownBlock ∧ some k_ ≠ (.slice Ao65 t229.length co65 : Value).ownBlock) (Kd.R_keptB (HO_216001.out) hkp (fun k_ hk_ hs_ => (hk_.1.1) hs_)) (fun k_ hk_ => ⟨hk_.1.1.1, hk_.1.1.2, hk_.1.2⟩)); have n1_ := Aside0.mk (Kd.R_reok rfl hy0 (fun k_ e_ => HO_221001.out.1 k_ e_)); have n2_ := Aside0.mk (Kd.R_mono (ok' := fun k_ => some k_ ≠ (.slice Ao24 t211.length co24 : Value).ownBlock ∧ some k_ ≠ (.slice Ao31 t217.length co31 : Value).ownBlock ∧ some k_ ≠ (.slice Ao65 t229.length co65 : Value).ownBlock) (Kd.R_keptB (HO_227001.out) hkp (fun k_ hk_ hs_ => (hk_.1.2) hs_)) (fun k_ hk_ => ⟨hk_.1.1.1, hk_.1.1.2, hk_.1.2⟩)); have n3_ := Aside0.mk (blk_kept (by (with_reducible repeat (first | refine blk_drewN ?_ _ | refine blk_drew ?_ | refine blk_alloc ?_ _)); exact BK204.out) hkp (fun hs_ => (fun e_ => (Kd.R_ne HO_221001.out BK204.out (by decide)) e_) hs_)); have n4_ := Aside0.mk (blk_kept (by (with_reducible repeat (first | refine blk_drewN ?_ _ | refine blk_drew ?_ | refine blk_alloc ?_ _)); exact BK215.out) hkp (fun hs_ => (fun e_ => (Kd.R_ne HO_221001.out BK215.out (by decide)) e_) hs_)); have n5_ := Aside0.mk (blk_kept (by (with_reducible repeat (first | refine blk_drewN ?_ _ | refine blk_drew ?_ | refine blk_alloc ?_ _)); exact BK220.out) hkp (fun hs_ => (fun e_ => (Kd.R_ne HO_221001.out BK220.out (by decide)) e_) hs_)); have n6_ := Aside0.mk (blk_kept (by (with_reducible repeat (first | refine blk_drewN ?_ _ | refine blk_drew ?_ | refine blk_alloc ?_ _)); exact BK226.out) hkp (fun hs_ => (fun e_ => (Kd.R_ne HO_221001.out BK226.out (by decide)) e_) hs_)); have n7_ := Aside0.mk (Kd.R_mono (ok' := fun k_ => some k_ ≠ (.slice Ao24 t211.length co24 : Value).ownBlock ∧ some k_ ≠ (.slice Ao31 t217.length co31 : Value).ownBlock ∧ some k_ ≠ (.slice Ao38 t222.length co38 : Value).ownBlock) (Kd.R_keptB (HO231.out) hkp (fun k_ hk_ hs_ => (hk_.1.2) hs_)) (fun k_ hk_ => ⟨hk_.1.1.1.2, hk_.1.1.2, hk_.1.2⟩)); have n8_ := Aside0.mk (hb); clear HO_216001; clear HO_221001; clear HO_227001; clear BK204; clear BK215; clear BK220; clear BK226; clear HO231; clear HB; have HO_216001 := n0_; have HO_221001 := n1_; have HO_227001 := n2_; have BK204 := n3_; have BK215 := n4_; have BK220 := n5_; have BK226 := n6_; have HO231 := n7_; have HB := n8_; clear n0_ n1_ n2_ n3_ n4_ n5_ n6_ n7_ n8_; (try clear hb); (try clear hkp); (try clear hy0)))
            (try simp only [Act.put, List.setIfInBounds_toArray, List.set_cons_zero, List.set_cons_succ])
            go_cut [69] (fun v69 wc => ∃ (kq : Nat) (x69_61 : Bool), v69 = .bool x69_61 ∧ Aside0 (laws_FnExactAddOr.j1 kq a1 a2 t214 x69_61 a0_0 l0_1 t210 t211 t221 t222 = some r) ∧ Aside0 (kq ≤ kj12) ∧ Aside0 (Kd.R k57 57 wc w.heap.size (fun k_ => some k_ ≠ ((.slice Ao31 t217.length co31) : Value).ownBlock ∧ some k_ ≠ ((.slice Ao38 t222.length co38) : Value).ownBlock) (.slice Ao24 t211.length co24) t211) ∧ Aside0 (Kd.R k57 57 wc w.heap.size (fun k_ => some k_ ≠ ((.slice Ao24 t211.length co24) : Value).ownBlock ∧ some k_ ≠ ((.slice Ao38 t222.length co38) : Value).ownBlock) (.slice Ao31 t217.length co31) t234) ∧ Aside0 (Kd.R k57 57 wc w.heap.size (fun k_ => some k_ ≠ ((.slice Ao24 t211.length co24) : Value).ownBlock ∧ some k_ ≠ ((.slice Ao31 t217.length co31) : Value).ownBlock) (.slice Ao38 t222.length co38) t222) ∧ Aside0 (wc.heap[gb204]? = some (.cells #[.int .i64 a0_0, (.slice A0_1 l0_1.length c0_1)] 24 (0, 0))) ∧ Aside0 (wc.heap[gb215]? = some (.cells #[.int .i64 t210, (.slice Ao24 t211.length co24)] 28 (0, 0))) ∧ Aside0 (wc.heap[gb220]? = some (.cells #[.int .i64 t216, (.slice Ao31 t217.length co31)] 28 (0, 0))) ∧ Aside0 (wc.heap[gb226]? = some (.cells #[.int .i64 t221, (.slice Ao38 t222.length co38)] 28 (0, 0))) ∧ Aside0 (Below w.heap.size w wc))
            case first =>
              have H := HC62.out
              clear HC62
              by_cases c72 : t233 < 0
              · rw [if_pos c72] at H
                have c72b0 : decide (t233 < 0) = true := decide_eq_true c72
                clear c72
                (first | rw [c72b0] | (simp only [i64_w, i32_w]; rw [c72b0]) | rw [c72b1] | simp only [c72b1] | skip)
                have H' := Aside0.mk H
                clear H
                go_wp2
                go_meet
                case rel => exact ⟨_, (true), (by first | rfl | (simp; done) | (simp [*]; done)), H', ⟨by have := HJ12.out; first | omega | exact Nat.le_refl _⟩, ⟨by (with_reducible repeat (first | apply Kd.R_alloc | apply Kd.R_drewN | apply Kd.R_drew)); exact Kd.R_mono HO_216001.out (fun _ hk => ⟨hk.1, hk.2.1⟩)⟩, ⟨by (with_reducible repeat (first | apply Kd.R_alloc | apply Kd.R_drewN | apply Kd.R_drew)); exact Kd.R_mono HO_221001.out (fun _ hk => ⟨hk.1.1, hk.1.2⟩)⟩, ⟨by (with_reducible repeat (first | apply Kd.R_alloc | apply Kd.R_drewN | apply Kd.R_drew)); exact Kd.R_mono HO_227001.out (fun _ hk => ⟨hk.1, hk.2.1⟩)⟩, ⟨by (with_reducible repeat (first | refine blk_drewN ?_ _ | refine blk_drew ?_ | refine blk_alloc ?_ _)); exact BK204.out⟩, ⟨by (with_reducible repeat (first | refine blk_drewN ?_ _ | refine blk_drew ?_ | refine blk_alloc ?_ _)); exact BK215.out⟩, ⟨by (with_reducible repeat (first | refine blk_drewN ?_ _ | refine blk_drew ?_ | refine blk_alloc ?_ _)); exact BK220.out⟩, ⟨by (with_reducible repeat (first | refine blk_drewN ?_ _ | refine blk_drew ?_ | refine blk_alloc ?_ _)); exact BK226.out⟩, ⟨by repeat (first | (with_reducible first | exact HB.out | apply below_alloc | apply pw_below_drewN | apply below_drew1 | refine below_set ?_ GE204.out | refine below_set ?_ GE215.out | refine below_set ?_ GE220.out | refine below_set ?_ GE226.out) | exact HB.out)⟩⟩
              · rw [if_neg c72] at H
                have c72b0 : decide (t233 < 0) = false := decide_eq_false c72
                clear c72
                (first | rw [c72b0] | (simp only [i64_w, i32_w]; rw [c72b0]) | rw [c72b1] | simp only [c72b1] | skip)
                replace H := Option.bind_eq_some_iff.mp H
                obtain ⟨t235, A730, H⟩ := H
                replace H : (if t235 = true then (laws_FnExactAddOr.j1 kj12 a1 a2 t214 (t225 != t214) a0_0 l0_1 t210 t211 t221 t222) else (laws_FnExactAddOr.j1 kj12 a1 a2 t214 true a0_0 l0_1 t210 t211 t221 t222)) = some r := H
                have A73 := Aside0.mk A730
                clear A730
                by_cases c74 : t235 = true
                · subst c74
                  have H1 : (laws_FnExactAddOr.j1 kj12 a1 a2 t214 (t225 != t214) a0_0 l0_1 t210 t211 t221 t222) = some r := by rw [if_pos rfl] at H; exact H
                  clear H
                  have H := H1
                  clear H1
                  have H' := Aside0.mk H
                  clear H
                  have hnb75 := NB226_204.out
                  have hnc75 := NB204_226.out
                  have hnb76 := NB226_215.out
                  have hnc76 := NB215_226.out
                  have hnb77 := NB226_220.out
                  have hnc77 := NB220_226.out
                  have hcz78_0 : w71.cell? ⟨gb226, 0, none⟩ = some (.int .i64 t221) := (blk_cell BK226.out 0).trans rfl
                  have hcz78_1 : w71.cell? ⟨gb226, 1, none⟩ = some (.slice Ao38 t222.length co38) := (blk_cell BK226.out 1).trans rfl
                  have hfz78_0 := blk_frozen BK226.out 0
                  have hfz78_1 := blk_frozen BK226.out 1
                  have hnb79 := NB215_204.out
                  have hnc79 := NB204_215.out
                  have hnb80 := NB215_220.out
                  have hnc80 := NB220_215.out
                  have hcz81_0 : w71.cell? ⟨gb215, 0, none⟩ = some (.int .i64 t210) := (blk_cell BK215.out 0).trans rfl
                  have hcz81_1 : w71.cell? ⟨gb215, 1, none⟩ = some (.slice Ao24 t211.length co24) := (blk_cell BK215.out 1).trans rfl
                  have hfz81_0 := blk_frozen BK215.out 0
                  have hfz81_1 := blk_frozen BK215.out 1
                  go_wp2_with (first | (go_at_call 10; (with_reducible refine (laws_eqCircuit.calls kj12 t221 _ _ t222 t210 _ _ t211 true _ ?side1 ?side2 ?side3 ?side4 A73.out).mono ?_); (case side1 => repeat (first | exact (Kd.R_reads' HO_227001.out).2.2 | (with_reducible refine Kd.C_alloc ?_ _) | (with_reducible refine Kd.C_drewN ?_ _) | (with_reducible refine Kd.C_drew ?_))); (case side2 => exact (Kd.R_reads' HO_227001.out).2.1); (case side3 => repeat (first | exact (Kd.R_reads' HO_216001.out).2.2 | (with_reducible refine Kd.C_alloc ?_ _) | (with_reducible refine Kd.C_drewN ?_ _) | (with_reducible refine Kd.C_drew ?_))); (case side4 => exact (Kd.R_reads' HO_216001.out).2.1); rintro e w82 ⟨rfl, hb⟩; have n0_ := Aside0.mk (Kd.R_below (by (with_reducible repeat (first | apply Kd.R_alloc | apply Kd.R_drewN | apply Kd.R_drew)); exact HO_216001.out) hb); have n1_ := Aside0.mk (Kd.R_below (by (with_reducible repeat (first | apply Kd.R_alloc | apply Kd.R_drewN | apply Kd.R_drew)); exact HO_221001.out) hb); have n2_ := Aside0.mk (Kd.R_below (by (with_reducible repeat (first | apply Kd.R_alloc | apply Kd.R_drewN | apply Kd.R_drew)); exact HO_227001.out) hb); have n3_ := Aside0.mk (Kd.R_below (by (with_reducible repeat (first | apply Kd.R_alloc | apply Kd.R_drewN | apply Kd.R_drew)); exact HO231.out) hb); have n4_ := Aside0.mk (blk_below (g := gb204) (o := .cells #[.int .i64 a0_0, .slice A0_1 l0_1.length c0_1] 24 (0, 0)) (by (with_reducible repeat (first | refine blk_drewN ?_ _ | refine blk_drew ?_ | refine blk_alloc ?_ _)); exact BK204.out) hb); have n5_ := Aside0.mk (blk_below (g := gb215) (o := .cells #[.int .i64 t210, .slice Ao24 t211.length co24] 28 (0, 0)) (by (with_reducible repeat (first | refine blk_drewN ?_ _ | refine blk_drew ?_ | refine blk_alloc ?_ _)); exact BK215.out) hb); have n6_ := Aside0.mk (blk_below (g := gb220) (o := .cells #[.int .i64 t216, .slice Ao31 t217.length co31] 28 (0, 0)) (by (with_reducible repeat (first | refine blk_drewN ?_ _ | refine blk_drew ?_ | refine blk_alloc ?_ _)); exact BK220.out) hb); have n7_ := Aside0.mk (blk_below (g := gb226) (o := .cells #[.int .i64 t221, .slice Ao38 t222.length co38] 28 (0, 0)) (by (with_reducible repeat (first | refine blk_drewN ?_ _ | refine blk_drew ?_ | refine blk_alloc ?_ _)); exact BK226.out) hb); have n8_ := Aside0.mk (below_step (by repeat (first | (with_reducible first | exact HB.out | apply below_alloc | apply pw_below_drewN | apply below_drew1 | refine below_set ?_ GE204.out | refine below_set ?_ GE215.out | refine below_set ?_ GE220.out | refine below_set ?_ GE226.out) | exact HB.out)) hb); clear HO_216001; clear HO_221001; clear HO_227001; clear HO231; clear BK204; clear BK215; clear BK220; clear BK226; clear HB; have HO_216001 := n0_; have HO_221001 := n1_; have HO_227001 := n2_; have HO231 := n3_; have BK204 := n4_; have BK215 := n5_; have BK220 := n6_; have BK226 := n7_; have HB := n8_; clear n0_ n1_ n2_ n3_ n4_ n5_ n6_ n7_ n8_; (try clear hb); (try clear hb2); (try clear hk); (try clear hi)))
                  go_meet
                  case rel => exact ⟨_, ((t225 != t214)), (by first | rfl | (simp; done) | (simp [*]; done)), H', ⟨by have := HJ12.out; first | omega | exact Nat.le_refl _⟩, ⟨by (with_reducible repeat (first | apply Kd.R_alloc | apply Kd.R_drewN | apply Kd.R_drew)); exact Kd.R_mono HO_216001.out (fun _ hk => ⟨hk.1, hk.2.1⟩)⟩, ⟨by (with_reducible repeat (first | apply Kd.R_alloc | apply Kd.R_drewN | apply Kd.R_drew)); exact Kd.R_mono HO_221001.out (fun _ hk => ⟨hk.1.1, hk.1.2⟩)⟩, ⟨by (with_reducible repeat (first | apply Kd.R_alloc | apply Kd.R_drewN | apply Kd.R_drew)); exact Kd.R_mono HO_227001.out (fun _ hk => ⟨hk.1, hk.2.1⟩)⟩, ⟨by (with_reducible repeat (first | refine blk_drewN ?_ _ | refine blk_drew ?_ | refine blk_alloc ?_ _)); exact BK204.out⟩, ⟨by (with_reducible repeat (first | refine blk_drewN ?_ _ | refine blk_drew ?_ | refine blk_alloc ?_ _)); exact BK215.out⟩, ⟨by (with_reducible repeat (first | refine blk_drewN ?_ _ | refine blk_drew ?_ | refine blk_alloc ?_ _)); exact BK220.out⟩, ⟨by (with_reducible repeat (first | refine blk_drewN ?_ _ | refine blk_drew ?_ | refine blk_alloc ?_ _)); exact BK226.out⟩, ⟨by repeat (first | (with_reducible first | exact HB.out | apply below_alloc | apply pw_below_drewN | apply below_drew1 | refine below_set ?_ GE204.out | refine below_set ?_ GE215.out | refine below_set ?_ GE220.out | refine below_set ?_ GE226.out) | exact HB.out)⟩⟩
                · replace c74 := Bool.eq_false_iff.mpr c74
                  subst c74
                  have H1 : (laws_FnExactAddOr.j1 kj12 a1 a2 t214 true a0_0 l0_1 t210 t211 t221 t222) = some r := by rw [if_neg (show ¬ (false = true) by decide)] at H; exact H
                  clear H
                  have H := H1
                  clear H1
                  have H' := Aside0.mk H
                  clear H
                  have hnb83 := NB226_204.out
                  have hnc83 := NB204_226.out
                  have hnb84 := NB226_215.out
                  have hnc84 := NB215_226.out
                  have hnb85 := NB226_220.out
                  have hnc85 := NB220_226.out
                  have hcz86_0 : w71.cell? ⟨gb226, 0, none⟩ = some (.int .i64 t221) := (blk_cell BK226.out 0).trans rfl
                  have hcz86_1 : w71.cell? ⟨gb226, 1, none⟩ = some (.slice Ao38 t222.length co38) := (blk_cell BK226.out 1).trans rfl
                  have hfz86_0 := blk_frozen BK226.out 0
                  have hfz86_1 := blk_frozen BK226.out 1
                  have hnb87 := NB215_204.out
                  have hnc87 := NB204_215.out
                  have hnb88 := NB215_220.out
                  have hnc88 := NB220_215.out
                  have hcz89_0 : w71.cell? ⟨gb215, 0, none⟩ = some (.int .i64 t210) := (blk_cell BK215.out 0).trans rfl
                  have hcz89_1 : w71.cell? ⟨gb215, 1, none⟩ = some (.slice Ao24 t211.length co24) := (blk_cell BK215.out 1).trans rfl
                  have hfz89_0 := blk_frozen BK215.out 0
                  have hfz89_1 := blk_frozen BK215.out 1
                  go_wp2_with (first | (go_at_call 10; (with_reducible refine (laws_eqCircuit.calls kj12 t221 _ _ t222 t210 _ _ t211 false _ ?side1 ?side2 ?side3 ?side4 A73.out).mono ?_); (case side1 => repeat (first | exact (Kd.R_reads' HO_227001.out).2.2 | (with_reducible refine Kd.C_alloc ?_ _) | (with_reducible refine Kd.C_drewN ?_ _) | (with_reducible refine Kd.C_drew ?_))); (case side2 => exact (Kd.R_reads' HO_227001.out).2.1); (case side3 => repeat (first | exact (Kd.R_reads' HO_216001.out).2.2 | (with_reducible refine Kd.C_alloc ?_ _) | (with_reducible refine Kd.C_drewN ?_ _) | (with_reducible refine Kd.C_drew ?_))); (case side4 => exact (Kd.R_reads' HO_216001.out).2.1); rintro e w90 ⟨rfl, hb⟩; have n0_ := Aside0.mk (Kd.R_below (by (with_reducible repeat (first | apply Kd.R_alloc | apply Kd.R_drewN | apply Kd.R_drew)); exact HO_216001.out) hb); have n1_ := Aside0.mk (Kd.R_below (by (with_reducible repeat (first | apply Kd.R_alloc | apply Kd.R_drewN | apply Kd.R_drew)); exact HO_221001.out) hb); have n2_ := Aside0.mk (Kd.R_below (by (with_reducible repeat (first | apply Kd.R_alloc | apply Kd.R_drewN | apply Kd.R_drew)); exact HO_227001.out) hb); have n3_ := Aside0.mk (Kd.R_below (by (with_reducible repeat (first | apply Kd.R_alloc | apply Kd.R_drewN | apply Kd.R_drew)); exact HO231.out) hb); have n4_ := Aside0.mk (blk_below (g := gb204) (o := .cells #[.int .i64 a0_0, .slice A0_1 l0_1.length c0_1] 24 (0, 0)) (by (with_reducible repeat (first | refine blk_drewN ?_ _ | refine blk_drew ?_ | refine blk_alloc ?_ _)); exact BK204.out) hb); have n5_ := Aside0.mk (blk_below (g := gb215) (o := .cells #[.int .i64 t210, .slice Ao24 t211.length co24] 28 (0, 0)) (by (with_reducible repeat (first | refine blk_drewN ?_ _ | refine blk_drew ?_ | refine blk_alloc ?_ _)); exact BK215.out) hb); have n6_ := Aside0.mk (blk_below (g := gb220) (o := .cells #[.int .i64 t216, .slice Ao31 t217.length co31] 28 (0, 0)) (by (with_reducible repeat (first | refine blk_drewN ?_ _ | refine blk_drew ?_ | refine blk_alloc ?_ _)); exact BK220.out) hb); have n7_ := Aside0.mk (blk_below (g := gb226) (o := .cells #[.int .i64 t221, .slice Ao38 t222.length co38] 28 (0, 0)) (by (with_reducible repeat (first | refine blk_drewN ?_ _ | refine blk_drew ?_ | refine blk_alloc ?_ _)); exact BK226.out) hb); have n8_ := Aside0.mk (below_step (by repeat (first | (with_reducible first | exact HB.out | apply below_alloc | apply pw_below_drewN | apply below_drew1 | refine below_set ?_ GE204.out | refine below_set ?_ GE215.out | refine below_set ?_ GE220.out | refine below_set ?_ GE226.out) | exact HB.out)) hb); clear HO_216001; clear HO_221001; clear HO_227001; clear HO231; clear BK204; clear BK215; clear BK220; clear BK226; clear HB; have HO_216001 := n0_; have HO_221001 := n1_; have HO_227001 := n2_; have HO231 := n3_; have BK204 := n4_; have BK215 := n5_; have BK220 := n6_; have BK226 := n7_; have HB := n8_; clear n0_ n1_ n2_ n3_ n4_ n5_ n6_ n7_ n8_; (try clear hb); (try clear hb2); (try clear hk); (try clear hi)))
                  go_meet
                  case rel => exact ⟨_, (true), (by first | rfl | (simp; done) | (simp [*]; done)), H', ⟨by have := HJ12.out; first | omega | exact Nat.le_refl _⟩, ⟨by (with_reducible repeat (first | apply Kd.R_alloc | apply Kd.R_drewN | apply Kd.R_drew)); exact Kd.R_mono HO_216001.out (fun _ hk => ⟨hk.1, hk.2.1⟩)⟩, ⟨by (with_reducible repeat (first | apply Kd.R_alloc | apply Kd.R_drewN | apply Kd.R_drew)); exact Kd.R_mono HO_221001.out (fun _ hk => ⟨hk.1.1, hk.1.2⟩)⟩, ⟨by (with_reducible repeat (first | apply Kd.R_alloc | apply Kd.R_drewN | apply Kd.R_drew)); exact Kd.R_mono HO_227001.out (fun _ hk => ⟨hk.1, hk.2.1⟩)⟩, ⟨by (with_reducible repeat (first | refine blk_drewN ?_ _ | refine blk_drew ?_ | refine blk_alloc ?_ _)); exact BK204.out⟩, ⟨by (with_reducible repeat (first | refine blk_drewN ?_ _ | refine blk_drew ?_ | refine blk_alloc ?_ _)); exact BK215.out⟩, ⟨by (with_reducible repeat (first | refine blk_drewN ?_ _ | refine blk_drew ?_ | refine blk_alloc ?_ _)); exact BK220.out⟩, ⟨by (with_reducible repeat (first | refine blk_drewN ?_ _ | refine blk_drew ?_ | refine blk_alloc ?_ _)); exact BK226.out⟩, ⟨by repeat (first | (with_reducible first | exact HB.out | apply below_alloc | apply pw_below_drewN | apply below_drew1 | refine below_set ?_ GE204.out | refine below_set ?_ GE215.out | refine below_set ?_ GE220.out | refine below_set ?_ GE226.out) | exact HB.out)⟩⟩
            case rest =>
              clear HC62
              try clear c1
              try clear c2
              try clear p2
              try clear c3
              try clear c4
              try clear c5
              try clear c5b0
              try clear c6
              try clear c7
              try clear c8
              try clear c10
              try clear c11
              try clear c13
              try clear c14
              try clear c22
              try clear c28
              try clear c29
              try clear c34
              try clear c35
              try clear c36
              try clear c40
              try clear c41
              try clear c42
              try clear c43
              try clear c45
              try clear c46
              try clear c49
              try clear c50
              try clear c51
              try clear c53
              try clear c54
              try clear c57
              try clear c60
              try clear c67
              try clear c68
              try clear c69
              try clear c72
              try clear c72b0
              try clear c72b1
              try clear c74
              try clear c75
              try clear c76
              try clear c77
              try clear c79
              try clear c80
              try clear c83
              try clear c84
              try clear c85
              try clear c87
              try clear c88
              try clear hcz15_0
              try clear hcz15_1
              try clear hcz17_0
              try clear hcz17_1
              try clear hcz23_0
              try clear hcz23_1
              try clear hcz25_0
              try clear hcz25_1
              try clear hcz30_0
              try clear hcz30_1
              try clear hcz37_0
              try clear hcz37_1
              try clear hcz44_0
              try clear hcz44_1
              try clear hcz47_0
              try clear hcz47_1
              try clear hcz52_0
              try clear hcz52_1
              try clear hcz55_0
              try clear hcz55_1
              try clear hcz70_0
              try clear hcz70_1
              try clear hcz78_0
              try clear hcz78_1
              try clear hcz7_0
              try clear hcz7_1
              try clear hcz81_0
              try clear hcz81_1
              try clear hcz86_0
              try clear hcz86_1
              try clear hcz89_0
              try clear hcz89_1
              try clear hfz15_0
              try clear hfz15_1
              try clear hfz17_0
              try clear hfz17_1
              try clear hfz23_0
              try clear hfz23_1
              try clear hfz25_0
              try clear hfz25_1
              try clear hfz30_0
              try clear hfz30_1
              try clear hfz37_0
              try clear hfz37_1
              try clear hfz44_0
              try clear hfz44_1
              try clear hfz47_0
              try clear hfz47_1
              try clear hfz52_0
              try clear hfz52_1
              try clear hfz55_0
              try clear hfz55_1
              try clear hfz70_0
              try clear hfz70_1
              try clear hfz78_0
              try clear hfz78_1
              try clear hfz7_0
              try clear hfz7_1
              try clear hfz81_0
              try clear hfz81_1
              try clear hfz86_0
              try clear hfz86_1
              try clear hfz89_0
              try clear hfz89_1
              try clear p2
              obtain ⟨kq, x69_61, rfl, HA, HJ61, HO_216001, HO_221001, HO_227001, BK204, BK215, BK220, BK226, HB⟩ := hcut
              have hl221001_61 := (Kd.R_reads' HO_221001.out).1
              rw [hl221001_61] at HO_221001
              (try simp only [hl221001_61])
              (try simp only [hl221001_61] at BK204)
              (try simp only [hl221001_61] at BK215)
              (try simp only [hl221001_61] at BK220)
              (try simp only [hl221001_61] at BK226)
              (try simp only [hl221001_61] at HO_216001)
              (try simp only [hl221001_61] at HO_227001)
              cases kq with
              | zero => exact absurd HA.out (by simp [laws_FnExactAddOr.j1])
              | succ kj61 =>
                have H := HA.out
                clear HA
                simp only [laws_FnExactAddOr.j1] at H
                by_cases c91 : x69_61 = true
                · subst c91
                  have H1 : (some false) = some r := by rw [if_pos rfl] at H; exact H
                  clear H
                  have H := H1
                  clear H1
                  obtain rfl := Option.some.inj H
                  go_wp2
                  go_ret
                  exact ⟨by first | rfl | (simp [errW_none, errW_some] <;> rfl) | (simp [*, errW_none, errW_some] <;> rfl), by repeat (first | (with_reducible first | exact HB.out | apply below_alloc | apply pw_below_drewN | apply below_drew1 | refine below_set ?_ GE204.out | refine below_set ?_ GE215.out | refine below_set ?_ GE220.out | refine below_set ?_ GE226.out) | exact HB.out)⟩
                · replace c91 := Bool.eq_false_iff.mpr c91
                  subst c91
                  have H1 : ((laws_markCircuit.f kj61 t221 t222 1).bind fun bt236 => ((laws_heldCircuit.f kj61 t221 bt236.2 1).bind fun t238 => (if t238 < 0 then (some false) else (if t238 = bt236.1 then ((laws_toCircuit.f kj61 a0_0 l0_1).bind fun bt239 => ((impl_AddOr.f kj61 bt239.1 bt239.2 a1 a2).bind fun bt243 => ((laws_eqCircuit.f kj61 bt243.1 bt243.2.1 t210 t211).bind fun t249 => (if t249 = true then (laws_FnExactAddOr.j2 kj61 bt236.1 (bt243.2.2 != t214) t221 bt236.2) else (laws_FnExactAddOr.j2 kj61 bt236.1 true t221 bt236.2))))) else (some false))))) = some r := by rw [if_neg (show ¬ (false = true) by decide)] at H; exact H
                  clear H
                  have H := H1
                  clear H1
                  replace H := Option.bind_eq_some_iff.mp H
                  obtain ⟨⟨t236, t237⟩, A920, H⟩ := H
                  replace H : ((laws_heldCircuit.f kj61 t221 t237 1).bind fun t238 => (if t238 < 0 then (some false) else (if t238 = t236 then ((laws_toCircuit.f kj61 a0_0 l0_1).bind fun bt239 => ((impl_AddOr.f kj61 bt239.1 bt239.2 a1 a2).bind fun bt243 => ((laws_eqCircuit.f kj61 bt243.1 bt243.2.1 t210 t211).bind fun t249 => (if t249 = true then (laws_FnExactAddOr.j2 kj61 t236 (bt243.2.2 != t214) t221 t237) else (laws_FnExactAddOr.j2 kj61 t236 true t221 t237))))) else (some false)))) = some r := H
                  have A92 := Aside0.mk A920
                  clear A920
                  replace H := Option.bind_eq_some_iff.mp H
                  obtain ⟨t238, A930, H⟩ := H
                  replace H : (if t238 < 0 then (some false) else (if t238 = t236 then ((laws_toCircuit.f kj61 a0_0 l0_1).bind fun bt239 => ((impl_AddOr.f kj61 bt239.1 bt239.2 a1 a2).bind fun bt243 => ((laws_eqCircuit.f kj61 bt243.1 bt243.2.1 t210 t211).bind fun t249 => (if t249 = true then (laws_FnExactAddOr.j2 kj61 t236 (bt243.2.2 != t214) t221 t237) else (laws_FnExactAddOr.j2 kj61 t236 true t221 t237))))) else (some false))) = some r := H
                  have A93 := Aside0.mk A930
                  clear A930
                  by_cases c94 : t238 < 0
                  · rw [if_pos c94] at H
                    have c94b0 : decide (t238 < 0) = true := decide_eq_true c94
                    (try (have c94b0z := c94b0; simp only [hl221001_61] at c94b0z))
                    clear c94
                    obtain rfl := Option.some.inj H
                    have hnb95 := NB226_204.out
                    have hnc95 := NB204_226.out
                    have hnb96 := NB226_215.out
                    have hnc96 := NB215_226.out
                    have hnb97 := NB226_220.out
                    have hnc97 := NB220_226.out
                    have hcz98_0 : wc.cell? ⟨gb226, 0, none⟩ = some (.int .i64 t221) := (blk_cell BK226.out 0).trans rfl
                    have hcz98_1 : wc.cell? ⟨gb226, 1, none⟩ = some (.slice Ao38 t222.length co38) := (blk_cell BK226.out 1).trans rfl
                    have hfz98_0 := blk_frozen BK226.out 0
                    have hfz98_1 := blk_frozen BK226.out 1
                    go_wp2_with (first | ((with_reducible refine gate_callee (f := 11) rfl ?_); refine goesL_ (some 72) rfl rfl Try.func11 (by kernel_rfl) rfl #[.agg #[.int .i64 t221, .slice Ao38 t222.length co38], .int .i64 1] rfl (by (try simp only [List.map_toArray, List.map_cons, List.map_nil]); first | done | rfl | (simp only [List.length_drop, List.length_take]; rfl)) ?_; (with_reducible refine (laws_markCircuit.calls kj61 t221 (fun k_ => some k_ = (.slice Ao38 t222.length co38 : Value).ownBlock) (.slice Ao38 t222.length co38) t222 1 t236 t237 w _ ?side1 ?side2 A92.out).mono ?_); (case side1 => repeat (first | (with_reducible first | exact HB.out | apply below_alloc | apply pw_below_drewN | apply below_drew1 | refine below_set ?_ GE204.out | refine below_set ?_ GE215.out | refine below_set ?_ GE220.out | refine below_set ?_ GE226.out) | exact HB.out)); (case side2 => exact Kd.R_tight rfl HO_227001.out); rintro e w99 ⟨rfl, hy0, hb, hkp⟩; refine ⟨_, rfl, ?_⟩; have n0_ := Aside0.mk (Kd.R_mono (ok' := fun k_ => some k_ ≠ (.slice Ao31 t234.length co31 : Value).ownBlock ∧ some k_ ≠ (.slice Ao38 t222.length co38 : Value).ownBlock) (Kd.R_keptB (HO_216001.out) hkp (fun k_ hk_ hs_ => (hk_.2) hs_)) (fun k_ hk_ => ⟨hk_.1.1, hk_.1.2⟩)); have n1_ := Aside0.mk (Kd.R_mono (ok' := fun k_ => some k_ ≠ (.slice Ao24 t211.length co24 : Value).ownBlock ∧ some k_ ≠ (.slice Ao38 t222.length co38 : Value).ownBlock) (Kd.R_keptB (HO_221001.out) hkp (fun k_ hk_ hs_ => (hk_.2) hs_)) (fun k_ hk_ => ⟨hk_.1.1, hk_.1.2⟩)); have n2_ := Aside0.mk (Kd.R_reok rfl hy0 (fun k_ e_ => HO_227001.out.1 k_ e_)); have n3_ := Aside0.mk (blk_kept (by (with_reducible repeat (first | refine blk_drewN ?_ _ | refine blk_drew ?_ | refine blk_alloc ?_ _)); exact BK204.out) hkp (fun hs_ => (fun e_ => (Kd.R_ne HO_227001.out BK204.out (by decide)) e_) hs_)); have n4_ := Aside0.mk (blk_kept (by (with_reducible repeat (first | refine blk_drewN ?_ _ | refine blk_drew ?_ | refine blk_alloc ?_ _)); exact BK215.out) hkp (fun hs_ => (fun e_ => (Kd.R_ne HO_227001.out BK215.out (by decide)) e_) hs_)); have n5_ := Aside0.mk (blk_kept (by (with_reducible repeat (first | refine blk_drewN ?_ _ | refine blk_drew ?_ | refine blk_alloc ?_ _)); exact BK220.out) hkp (fun hs_ => (fun e_ => (Kd.R_ne HO_227001.out BK220.out (by decide)) e_) hs_)); have n6_ := Aside0.mk (blk_kept (by (with_reducible repeat (first | refine blk_drewN ?_ _ | refine blk_drew ?_ | refine blk_alloc ?_ _)); exact BK226.out) hkp (fun hs_ => (fun e_ => (Kd.R_ne HO_227001.out BK226.out (by decide)) e_) hs_)); have n7_ := Aside0.mk (hb); clear HO_216001; clear HO_221001; clear HO_227001; clear BK204; clear BK215; clear BK220; clear BK226; clear HB; have HO_216001 := n0_; have HO_221001 := n1_; have HO_227001 := n2_; have BK204 := n3_; have BK215 := n4_; have BK220 := n5_; have BK226 := n6_; have HB := n7_; clear n0_ n1_ n2_ n3_ n4_ n5_ n6_ n7_; (try clear hb); (try clear hkp); (try clear hy0); have hcz100_0 : w99.cell? ⟨gb226, 0, none⟩ = some (.int .i64 t221) := (blk_cell BK226.out 0).trans rfl; have hcz100_1 : w99.cell? ⟨gb226, 1, none⟩ = some (.slice Ao38 t222.length co38) := (blk_cell BK226.out 1).trans rfl; have hfz100_0 := blk_frozen BK226.out 0; have hfz100_1 := blk_frozen BK226.out 1) | ((with_reducible refine gate_callee (f := 12) rfl ?_); refine goesL_ (some 75) rfl rfl Try.func12 (by kernel_rfl) rfl #[.agg #[.int .i64 t221, .slice Ao38 t237.length co38], .int .i64 1] rfl (by (try simp only [List.map_toArray, List.map_cons, List.map_nil]); first | done | (rw [show t237.length = t222.length from (Kd.R_reads' HO_227001.out).1.symm] <;> rfl) | rfl | (simp only [List.length_drop, List.length_take]; rfl)) ?_; (with_reducible refine (laws_heldCircuit.calls kj61 t221 _ _ t237 1 t238 _ ?side1 ?side2 A93.out).mono ?_); (case side1 => repeat (first | exact (Kd.R_reads' HO_227001.out).2.2 | (with_reducible refine Kd.C_alloc ?_ _) | (with_reducible refine Kd.C_drewN ?_ _) | (with_reducible refine Kd.C_drew ?_))); (case side2 => rw [show t237.length = t222.length from (Kd.R_reads' HO_227001.out).1.symm]; exact (Kd.R_reads' HO_227001.out).2.1); rintro e w101 ⟨rfl, hb⟩; refine ⟨_, rfl, ?_⟩; have n0_ := Aside0.mk (Kd.R_below (by (with_reducible repeat (first | apply Kd.R_alloc | apply Kd.R_drewN | apply Kd.R_drew)); exact HO_216001.out) hb); have n1_ := Aside0.mk (Kd.R_below (by (with_reducible repeat (first | apply Kd.R_alloc | apply Kd.R_drewN | apply Kd.R_drew)); exact HO_221001.out) hb); have n2_ := Aside0.mk (Kd.R_below (by (with_reducible repeat (first | apply Kd.R_alloc | apply Kd.R_drewN | apply Kd.R_drew)); exact HO_227001.out) hb); have n3_ := Aside0.mk (blk_below (g := gb204) (o := .cells #[.int .i64 a0_0, .slice A0_1 l0_1.length c0_1] 24 (0, 0)) (by (with_reducible repeat (first | refine blk_drewN ?_ _ | refine blk_drew ?_ | refine blk_alloc ?_ _)); exact BK204.out) hb); have n4_ := Aside0.mk (blk_below (g := gb215) (o := .cells #[.int .i64 t210, .slice Ao24 t211.length co24] 28 (0, 0)) (by (with_reducible repeat (first | refine blk_drewN ?_ _ | refine blk_drew ?_ | refine blk_alloc ?_ _)); exact BK215.out) hb); have n5_ := Aside0.mk (blk_below (g := gb220) (o := .cells #[.int .i64 t216, .slice Ao31 t234.length co31] 28 (0, 0)) (by (with_reducible repeat (first | refine blk_drewN ?_ _ | refine blk_drew ?_ | refine blk_alloc ?_ _)); exact BK220.out) hb); have n6_ := Aside0.mk (blk_below (g := gb226) (o := .cells #[.int .i64 t221, .slice Ao38 t222.length co38] 28 (0, 0)) (by (with_reducible repeat (first | refine blk_drewN ?_ _ | refine blk_drew ?_ | refine blk_alloc ?_ _)); exact BK226.out) hb); have n7_ := Aside0.mk (below_step (by repeat (first | (with_reducible first | exact HB.out | apply below_alloc | apply pw_below_drewN | apply below_drew1 | refine below_set ?_ GE204.out | refine below_set ?_ GE215.out | refine below_set ?_ GE220.out | refine below_set ?_ GE226.out) | exact HB.out)) hb); clear HO_216001; clear HO_221001; clear HO_227001; clear BK204; clear BK215; clear BK220; clear BK226; clear HB; have HO_216001 := n0_; have HO_221001 := n1_; have HO_227001 := n2_; have BK204 := n3_; have BK215 := n4_; have BK220 := n5_; have BK226 := n6_; have HB := n7_; clear n0_ n1_ n2_ n3_ n4_ n5_ n6_ n7_; (try clear hb); (try clear hb2); (try clear hk); (try clear hi)))
                    go_ret
                    exact ⟨by first | rfl | (simp [errW_none, errW_some] <;> rfl) | (simp [*, errW_none, errW_some] <;> rfl), by repeat (first | (with_reducible first | exact HB.out | apply below_alloc | apply pw_below_drewN | apply below_drew1 | refine below_set ?_ GE204.out | refine below_set ?_ GE215.out | refine below_set ?_ GE220.out | refine below_set ?_ GE226.out) | exact HB.out)⟩
                  · rw [if_neg c94] at H
                    have c94b0 : decide (t238 < 0) = false := decide_eq_false c94
                    (try (have c94b0z := c94b0; simp only [hl221001_61] at c94b0z))
                    clear c94
                    by_cases c102 : t238 = t236
                    · rw [if_pos c102] at H
                      have c102b0 : (t238 == t236) = true := beq_iff_eq.mpr c102
                      have c102b1 : (t238 != t236) = false := bne_eq_false_iff_eq.mpr c102
                      (try (have c102b0z := c102b0; simp only [hl221001_61] at c102b0z))
                      clear c102
                      replace H := Option.bind_eq_some_iff.mp H
                      obtain ⟨⟨t239, t240⟩, A1030, H⟩ := H
                      replace H : ((impl_AddOr.f kj61 t239 t240 a1 a2).bind fun bt243 => ((laws_eqCircuit.f kj61 bt243.1 bt243.2.1 t210 t211).bind fun t249 => (if t249 = true then (laws_FnExactAddOr.j2 kj61 t236 (bt243.2.2 != t214) t221 t237) else (laws_FnExactAddOr.j2 kj61 t236 true t221 t237)))) = some r := H
                      have A103 := Aside0.mk A1030
                      clear A1030
                      replace H := Option.bind_eq_some_iff.mp H
                      obtain ⟨⟨t243, t244, t247⟩, A1040, H⟩ := H
                      replace H : ((laws_eqCircuit.f kj61 t243 t244 t210 t211).bind fun t249 => (if t249 = true then (laws_FnExactAddOr.j2 kj61 t236 (t247 != t214) t221 t237) else (laws_FnExactAddOr.j2 kj61 t236 true t221 t237))) = some r := H
                      have A104 := Aside0.mk A1040
                      clear A1040
                      have HC105 := Aside0.mk H
                      clear H
                      have hnb106 := NB226_204.out
                      have hnc106 := NB204_226.out
                      have hnb107 := NB226_215.out
                      have hnc107 := NB215_226.out
                      have hnb108 := NB226_220.out
                      have hnc108 := NB220_226.out
                      have hcz109_0 : wc.cell? ⟨gb226, 0, none⟩ = some (.int .i64 t221) := (blk_cell BK226.out 0).trans rfl
                      have hcz109_1 : wc.cell? ⟨gb226, 1, none⟩ = some (.slice Ao38 t222.length co38) := (blk_cell BK226.out 1).trans rfl
                      have hfz109_0 := blk_frozen BK226.out 0
                      have hfz109_1 := blk_frozen BK226.out 1
                      go_upto_region 25 with (first | ((with_reducible refine gate_callee (f := 11) rfl ?_); refine goesL_ (some 72) rfl rfl Try.func11 (by kernel_rfl) rfl #[.agg #[.int .i64 t221, .slice Ao38 t222.length co38], .int .i64 1] rfl (by (try simp only [List.map_toArray, List.map_cons, List.map_nil]); first | done | rfl | (simp only [List.length_drop, List.length_take]; rfl)) ?_; (with_reducible refine (laws_markCircuit.calls kj61 t221 (fun k_ => some k_ = (.slice Ao38 t222.length co38 : Value).ownBlock) (.slice Ao38 t222.length co38) t222 1 t236 t237 w _ ?side1 ?side2 A92.out).mono ?_); (case side1 => repeat (first | (with_reducible first | exact HB.out | apply below_alloc | apply pw_below_drewN | apply below_drew1 | refine below_set ?_ GE204.out | refine below_set ?_ GE215.out | refine below_set ?_ GE220.out | refine below_set ?_ GE226.out) | exact HB.out)); (case side2 => exact Kd.R_tight rfl HO_227001.out); rintro e w110 ⟨rfl, hy0, hb, hkp⟩; refine ⟨_, rfl, ?_⟩; have n0_ := Aside0.mk (Kd.R_mono (ok' := fun k_ => some k_ ≠ (.slice Ao31 t234.length co31 : Value).ownBlock ∧ some k_ ≠ (.slice Ao38 t222.length co38 : Value).ownBlock) (Kd.R_keptB (HO_216001.out) hkp (fun k_ hk_ hs_ => (hk_.2) hs_)) (fun k_ hk_ => ⟨hk_.1.1, hk_.1.2⟩)); have n1_ := Aside0.mk (Kd.R_mono (ok' := fun k_ => some k_ ≠ (.slice Ao24 t211.length co24 : Value).ownBlock ∧ some k_ ≠ (.slice Ao38 t222.length co38 : Value).ownBlock) (Kd.R_keptB (HO_221001.out) hkp (fun k_ hk_ hs_ => (hk_.2) hs_)) (fun k_ hk_ => ⟨hk_.1.1, hk_.1.2⟩)); have n2_ := Aside0.mk (Kd.R_reok rfl hy0 (fun k_ e_ => HO_227001.out.1 k_ e_)); have n3_ := Aside0.mk (blk_kept (by (with_reducible repeat (first | refine blk_drewN ?_ _ | refine blk_drew ?_ | refine blk_alloc ?_ _)); exact BK204.out) hkp (fun hs_ => (fun e_ => (Kd.R_ne HO_227001.out BK204.out (by decide)) e_) hs_)); have n4_ := Aside0.mk (blk_kept (by (with_reducible repeat (first | refine blk_drewN ?_ _ | refine blk_drew ?_ | refine blk_alloc ?_ _)); exact BK215.out) hkp (fun hs_ => (fun e_ => (Kd.R_ne HO_227001.out BK215.out (by decide)) e_) hs_)); have n5_ := Aside0.mk (blk_kept (by (with_reducible repeat (first | refine blk_drewN ?_ _ | refine blk_drew ?_ | refine blk_alloc ?_ _)); exact BK220.out) hkp (fun hs_ => (fun e_ => (Kd.R_ne HO_227001.out BK220.out (by decide)) e_) hs_)); have n6_ := Aside0.mk (blk_kept (by (with_reducible repeat (first | refine blk_drewN ?_ _ | refine blk_drew ?_ | refine blk_alloc ?_ _)); exact BK226.out) hkp (fun hs_ => (fun e_ => (Kd.R_ne HO_227001.out BK226.out (by decide)) e_) hs_)); have n7_ := Aside0.mk (hb); clear HO_216001; clear HO_221001; clear HO_227001; clear BK204; clear BK215; clear BK220; clear BK226; clear HB; have HO_216001 := n0_; have HO_221001 := n1_; have HO_227001 := n2_; have BK204 := n3_; have BK215 := n4_; have BK220 := n5_; have BK226 := n6_; have HB := n7_; clear n0_ n1_ n2_ n3_ n4_ n5_ n6_ n7_; (try clear hb); (try clear hkp); (try clear hy0); have hcz111_0 : w110.cell? ⟨gb226, 0, none⟩ = some (.int .i64 t221) := (blk_cell BK226.out 0).trans rfl; have hcz111_1 : w110.cell? ⟨gb226, 1, none⟩ = some (.slice Ao38 t222.length co38) := (blk_cell BK226.out 1).trans rfl; have hfz111_0 := blk_frozen BK226.out 0; have hfz111_1 := blk_frozen BK226.out 1) | ((with_reducible refine gate_callee (f := 12) rfl ?_); refine goesL_ (some 75) rfl rfl Try.func12 (by kernel_rfl) rfl #[.agg #[.int .i64 t221, .slice Ao38 t237.length co38], .int .i64 1] rfl (by (try simp only [List.map_toArray, List.map_cons, List.map_nil]); first | done | (rw [show t237.length = t222.length from (Kd.R_reads' HO_227001.out).1.symm] <;> rfl) | rfl | (simp only [List.length_drop, List.length_take]; rfl)) ?_; (with_reducible refine (laws_heldCircuit.calls kj61 t221 _ _ t237 1 t238 _ ?side1 ?side2 A93.out).mono ?_); (case side1 => repeat (first | exact (Kd.R_reads' HO_227001.out).2.2 | (with_reducible refine Kd.C_alloc ?_ _) | (with_reducible refine Kd.C_drewN ?_ _) | (with_reducible refine Kd.C_drew ?_))); (case side2 => rw [show t237.length = t222.length from (Kd.R_reads' HO_227001.out).1.symm]; exact (Kd.R_reads' HO_227001.out).2.1); rintro e w112 ⟨rfl, hb⟩; refine ⟨_, rfl, ?_⟩; have n0_ := Aside0.mk (Kd.R_below (by (with_reducible repeat (first | apply Kd.R_alloc | apply Kd.R_drewN | apply Kd.R_drew)); exact HO_216001.out) hb); have n1_ := Aside0.mk (Kd.R_below (by (with_reducible repeat (first | apply Kd.R_alloc | apply Kd.R_drewN | apply Kd.R_drew)); exact HO_221001.out) hb); have n2_ := Aside0.mk (Kd.R_below (by (with_reducible repeat (first | apply Kd.R_alloc | apply Kd.R_drewN | apply Kd.R_drew)); exact HO_227001.out) hb); have n3_ := Aside0.mk (blk_below (g := gb204) (o := .cells #[.int .i64 a0_0, .slice A0_1 l0_1.length c0_1] 24 (0, 0)) (by (with_reducible repeat (first | refine blk_drewN ?_ _ | refine blk_drew ?_ | refine blk_alloc ?_ _)); exact BK204.out) hb); have n4_ := Aside0.mk (blk_below (g := gb215) (o := .cells #[.int .i64 t210, .slice Ao24 t211.length co24] 28 (0, 0)) (by (with_reducible repeat (first | refine blk_drewN ?_ _ | refine blk_drew ?_ | refine blk_alloc ?_ _)); exact BK215.out) hb); have n5_ := Aside0.mk (blk_below (g := gb220) (o := .cells #[.int .i64 t216, .slice Ao31 t234.length co31] 28 (0, 0)) (by (with_reducible repeat (first | refine blk_drewN ?_ _ | refine blk_drew ?_ | refine blk_alloc ?_ _)); exact BK220.out) hb); have n6_ := Aside0.mk (blk_below (g := gb226) (o := .cells #[.int .i64 t221, .slice Ao38 t222.length co38] 28 (0, 0)) (by (with_reducible repeat (first | refine blk_drewN ?_ _ | refine blk_drew ?_ | refine blk_alloc ?_ _)); exact BK226.out) hb); have n7_ := Aside0.mk (below_step (by repeat (first | (with_reducible first | exact HB.out | apply below_alloc | apply pw_below_drewN | apply below_drew1 | refine below_set ?_ GE204.out | refine below_set ?_ GE215.out | refine below_set ?_ GE220.out | refine below_set ?_ GE226.out) | exact HB.out)) hb); clear HO_216001; clear HO_221001; clear HO_227001; clear BK204; clear BK215; clear BK220; clear BK226; clear HB; have HO_216001 := n0_; have HO_221001 := n1_; have HO_227001 := n2_; have BK204 := n3_; have BK215 := n4_; have BK220 := n5_; have BK226 := n6_; have HB := n7_; clear n0_ n1_ n2_ n3_ n4_ n5_ n6_ n7_; (try clear hb); (try clear hb2); (try clear hk); (try clear hi); have hnb113 := NB204_215.out; have hnc113 := NB215_204.out; have hnb114 := NB204_220.out; have hnc114 := NB220_204.out; have hcz115_0 : w112.cell? ⟨gb204, 0, none⟩ = some (.int .i64 a0_0) := (blk_cell BK204.out 0).trans rfl; have hcz115_1 : w112.cell? ⟨gb204, 1, none⟩ = some (.slice A0_1 l0_1.length c0_1) := (blk_cell BK204.out 1).trans rfl; have hfz115_0 := blk_frozen BK204.out 0; have hfz115_1 := blk_frozen BK204.out 1) | ((with_reducible refine gate_callee (f := 8) rfl ?_); refine goesL_ (some 83) rfl rfl Try.func8 (by kernel_rfl) rfl #[.agg #[.int .i64 a0_0, .slice A0_1 l0_1.length c0_1]] rfl (by (try simp only [List.map_toArray, List.map_cons, List.map_nil]); first | done | rfl | (simp only [List.length_drop, List.length_take]; rfl)) ?_; (with_reducible refine (laws_toCircuit.calls kj61 a0_0 _ _ l0_1 t239 t240 _ ?side1 ?side2 A103.out).mono ?_); (case side1 => repeat (first | exact (Kd.C_below HR0_1.out HB.out) | (with_reducible refine Kd.C_alloc ?_ _) | (with_reducible refine Kd.C_drewN ?_ _) | (with_reducible refine Kd.C_drew ?_))); (case side2 => exact HC0_1.out); rintro e w116 ⟨v241, rfl, ho0, hb⟩; refine ⟨_, rfl, ?_⟩; have n0_ := Aside0.mk (Kd.R_elder' (by (with_reducible repeat (first | apply Kd.R_alloc | apply Kd.R_drewN | apply Kd.R_drew)); exact HO_216001.out) (Kd.R_base ho0) hb); have n1_ := Aside0.mk (Kd.R_elder' (by (with_reducible repeat (first | apply Kd.R_alloc | apply Kd.R_drewN | apply Kd.R_drew)); exact HO_221001.out) (Kd.R_base ho0) hb); have n2_ := Aside0.mk (Kd.R_elder' (by (with_reducible repeat (first | apply Kd.R_alloc | apply Kd.R_drewN | apply Kd.R_drew)); exact HO_227001.out) (Kd.R_base ho0) hb); have n3_ := Aside0.mk (Kd.R_lower (Kd.R_new' (Kd.R_new' (Kd.R_new' ho0 (Kd.R_lt (by (with_reducible repeat (first | apply Kd.R_alloc | apply Kd.R_drewN | apply Kd.R_drew)); exact HO_216001.out))) (Kd.R_lt (by (with_reducible repeat (first | apply Kd.R_alloc | apply Kd.R_drewN | apply Kd.R_drew)); exact HO_221001.out))) (Kd.R_lt (by (with_reducible repeat (first | apply Kd.R_alloc | apply Kd.R_drewN | apply Kd.R_drew)); exact HO_227001.out))) (below_size (by repeat (first | (with_reducible first | exact HB.out | apply below_alloc | apply pw_below_drewN | apply below_drew1 | refine below_set ?_ GE204.out | refine below_set ?_ GE215.out | refine below_set ?_ GE220.out | refine below_set ?_ GE226.out) | exact HB.out)))); have n4_ := Aside0.mk (blk_below (g := gb204) (o := .cells #[.int .i64 a0_0, .slice A0_1 l0_1.length c0_1] 24 (0, 0)) (by (with_reducible repeat (first | refine blk_drewN ?_ _ | refine blk_drew ?_ | refine blk_alloc ?_ _)); exact BK204.out) hb); have n5_ := Aside0.mk (blk_below (g := gb215) (o := .cells #[.int .i64 t210, .slice Ao24 t211.length co24] 28 (0, 0)) (by (with_reducible repeat (first | refine blk_drewN ?_ _ | refine blk_drew ?_ | refine blk_alloc ?_ _)); exact BK215.out) hb); have n6_ := Aside0.mk (blk_below (g := gb220) (o := .cells #[.int .i64 t216, .slice Ao31 t234.length co31] 28 (0, 0)) (by (with_reducible repeat (first | refine blk_drewN ?_ _ | refine blk_drew ?_ | refine blk_alloc ?_ _)); exact BK220.out) hb); have n7_ := Aside0.mk (blk_below (g := gb226) (o := .cells #[.int .i64 t221, .slice Ao38 t222.length co38] 28 (0, 0)) (by (with_reducible repeat (first | refine blk_drewN ?_ _ | refine blk_drew ?_ | refine blk_alloc ?_ _)); exact BK226.out) hb); have n8_ := Aside0.mk (below_step (by repeat (first | (with_reducible first | exact HB.out | apply below_alloc | apply pw_below_drewN | apply below_drew1 | refine below_set ?_ GE204.out | refine below_set ?_ GE215.out | refine below_set ?_ GE220.out | refine below_set ?_ GE226.out) | exact HB.out)) hb); clear HO_216001; clear HO_221001; clear HO_227001; clear BK204; clear BK215; clear BK220; clear BK226; clear HB; have HO_216001 := n0_; have HO_221001 := n1_; have HO_227001 := n2_; have HO242 := n3_; have BK204 := n4_; have BK215 := n5_; have BK220 := n6_; have BK226 := n7_; have HB := n8_; clear n0_ n1_ n2_ n3_ n4_ n5_ n6_ n7_ n8_; (try clear hb); (try clear hb2); (try clear hk); (try clear hi); (try clear ho0); obtain ⟨Ao117, co117, eo117⟩ := Kd.R_slice HO242.out; subst eo117) | ((with_reducible refine gate_callee (f := 14) rfl ?_); refine goesL_ (some 86) rfl rfl Try.func14 (by kernel_rfl) rfl #[.agg #[.int .i64 t239, .slice Ao117 t240.length co117], .int .i64 a1, .int .i64 a2] rfl (by (try simp only [List.map_toArray, List.map_cons, List.map_nil]); first | done | rfl | (simp only [List.length_drop, List.length_take]; rfl)) ?_; (with_reducible refine (impl_AddOr.calls kj61 t239 _ _ t240 a1 a2 t243 t244 t247 _ ?side1 ?side2 A104.out).mono ?_); (case side1 => repeat (first | exact (Kd.R_reads' HO242.out).2.2 | (with_reducible refine Kd.C_alloc ?_ _) | (with_reducible refine Kd.C_drewN ?_ _) | (with_reducible refine Kd.C_drew ?_))); (case side2 => exact (Kd.R_reads' HO242.out).2.1); rintro e w118 ⟨v245, rfl, ho0, hb⟩; refine ⟨_, rfl, ?_⟩; have n0_ := Aside0.mk (Kd.R_elder' (by (with_reducible repeat (first | apply Kd.R_alloc | apply Kd.R_drewN | apply Kd.R_drew)); exact HO_216001.out) (Kd.R_base ho0) hb); have n1_ := Aside0.mk (Kd.R_elder' (by (with_reducible repeat (first | apply Kd.R_alloc | apply Kd.R_drewN | apply Kd.R_drew)); exact HO_221001.out) (Kd.R_base ho0) hb); have n2_ := Aside0.mk (Kd.R_elder' (by (with_reducible repeat (first | apply Kd.R_alloc | apply Kd.R_drewN | apply Kd.R_drew)); exact HO_227001.out) (Kd.R_base ho0) hb); have n3_ := Aside0.mk (Kd.R_elder' (by (with_reducible repeat (first | apply Kd.R_alloc | apply Kd.R_drewN | apply Kd.R_drew)); exact HO242.out) (Kd.R_base ho0) hb); have n4_ := Aside0.mk (Kd.R_lower (Kd.R_new' (Kd.R_new' (Kd.R_new' (Kd.R_new' ho0 (Kd.R_lt (by (with_reducible repeat (first | apply Kd.R_alloc | apply Kd.R_drewN | apply Kd.R_drew)); exact HO_216001.out))) (Kd.R_lt (by (with_reducible repeat (first | apply Kd.R_alloc | apply Kd.R_drewN | apply Kd.R_drew)); exact HO_221001.out))) (Kd.R_lt (by (with_reducible repeat (first | apply Kd.R_alloc | apply Kd.R_drewN | apply Kd.R_drew)); exact HO_227001.out))) (Kd.R_lt (by (with_reducible repeat (first | apply Kd.R_alloc | apply Kd.R_drewN | apply Kd.R_drew)); exact HO242.out))) (below_size (by repeat (first | (with_reducible first | exact HB.out | apply below_alloc | apply pw_below_drewN | apply below_drew1 | refine below_set ?_ GE204.out | refine below_set ?_ GE215.out | refine below_set ?_ GE220.out | refine below_set ?_ GE226.out) | exact HB.out)))); have n5_ := Aside0.mk (blk_below (g := gb204) (o := .cells #[.int .i64 a0_0, .slice A0_1 l0_1.length c0_1] 24 (0, 0)) (by (with_reducible repeat (first | refine blk_drewN ?_ _ | refine blk_drew ?_ | refine blk_alloc ?_ _)); exact BK204.out) hb); have n6_ := Aside0.mk (blk_below (g := gb215) (o := .cells #[.int .i64 t210, .slice Ao24 t211.length co24] 28 (0, 0)) (by (with_reducible repeat (first | refine blk_drewN ?_ _ | refine blk_drew ?_ | refine blk_alloc ?_ _)); exact BK215.out) hb); have n7_ := Aside0.mk (blk_below (g := gb220) (o := .cells #[.int .i64 t216, .slice Ao31 t234.length co31] 28 (0, 0)) (by (with_reducible repeat (first | refine blk_drewN ?_ _ | refine blk_drew ?_ | refine blk_alloc ?_ _)); exact BK220.out) hb); have n8_ := Aside0.mk (blk_below (g := gb226) (o := .cells #[.int .i64 t221, .slice Ao38 t222.length co38] 28 (0, 0)) (by (with_reducible repeat (first | refine blk_drewN ?_ _ | refine blk_drew ?_ | refine blk_alloc ?_ _)); exact BK226.out) hb); have n9_ := Aside0.mk (below_step (by repeat (first | (with_reducible first | exact HB.out | apply below_alloc | apply pw_below_drewN | apply below_drew1 | refine below_set ?_ GE204.out | refine below_set ?_ GE215.out | refine below_set ?_ GE220.out | refine below_set ?_ GE226.out) | exact HB.out)) hb); clear HO_216001; clear HO_221001; clear HO_227001; clear HO242; clear BK204; clear BK215; clear BK220; clear BK226; clear HB; have HO_216001 := n0_; have HO_221001 := n1_; have HO_227001 := n2_; have HO242 := n3_; have HO246 := n4_; have BK204 := n5_; have BK215 := n6_; have BK220 := n7_; have BK226 := n8_; have HB := n9_; clear n0_ n1_ n2_ n3_ n4_ n5_ n6_ n7_ n8_ n9_; (try clear hb); (try clear hb2); (try clear hk); (try clear hi); (try clear ho0)) | ((with_reducible refine gate_dst (N := 16) rfl ?_); refine box_event ?hg (N := 16) ?hd (cs := #[.int .i64 0, .slice none 0 0]) (t := 28) ?hr ?_; (case hd => rfl); (case hg => rfl); (case hr => first | (go_simp; done) | (go_simp; rfl)); intro gb248 hg w119 hbox hb; have n0_ := Aside0.mk (Kd.R_below (by (with_reducible repeat (first | apply Kd.R_alloc | apply Kd.R_drewN | apply Kd.R_drew)); exact HO_216001.out) hb); have n1_ := Aside0.mk (Kd.R_below (by (with_reducible repeat (first | apply Kd.R_alloc | apply Kd.R_drewN | apply Kd.R_drew)); exact HO_221001.out) hb); have n2_ := Aside0.mk (Kd.R_below (by (with_reducible repeat (first | apply Kd.R_alloc | apply Kd.R_drewN | apply Kd.R_drew)); exact HO_227001.out) hb); have n3_ := Aside0.mk (Kd.R_below (by (with_reducible repeat (first | apply Kd.R_alloc | apply Kd.R_drewN | apply Kd.R_drew)); exact HO242.out) hb); have n4_ := Aside0.mk (Kd.R_below (by (with_reducible repeat (first | apply Kd.R_alloc | apply Kd.R_drewN | apply Kd.R_drew)); exact HO246.out) hb); have n5_ := Aside0.mk (blk_below (g := gb204) (o := .cells #[.int .i64 a0_0, .slice A0_1 l0_1.length c0_1] 24 (0, 0)) (by (with_reducible repeat (first | refine blk_drewN ?_ _ | refine blk_drew ?_ | refine blk_alloc ?_ _)); exact BK204.out) hb); have n6_ := Aside0.mk (blk_below (g := gb215) (o := .cells #[.int .i64 t210, .slice Ao24 t211.length co24] 28 (0, 0)) (by (with_reducible repeat (first | refine blk_drewN ?_ _ | refine blk_drew ?_ | refine blk_alloc ?_ _)); exact BK215.out) hb); have n7_ := Aside0.mk (blk_below (g := gb220) (o := .cells #[.int .i64 t216, .slice Ao31 t234.length co31] 28 (0, 0)) (by (with_reducible repeat (first | refine blk_drewN ?_ _ | refine blk_drew ?_ | refine blk_alloc ?_ _)); exact BK220.out) hb); have n8_ := Aside0.mk (blk_below (g := gb226) (o := .cells #[.int .i64 t221, .slice Ao38 t222.length co38] 28 (0, 0)) (by (with_reducible repeat (first | refine blk_drewN ?_ _ | refine blk_drew ?_ | refine blk_alloc ?_ _)); exact BK226.out) hb); have n9_ := Aside0.mk (below_step (by repeat (first | (with_reducible first | exact HB.out | apply below_alloc | apply pw_below_drewN | apply below_drew1 | refine below_set ?_ GE204.out | refine below_set ?_ GE215.out | refine below_set ?_ GE220.out | refine below_set ?_ GE226.out) | exact HB.out)) hb); have n10_ := Aside0.mk (hbox); have n11_ := Aside0.mk ((by rw [hg]; exact (below_size (by repeat (first | (with_reducible first | exact HB.out | apply below_alloc | apply pw_below_drewN | apply below_drew1 | refine below_set ?_ GE204.out | refine below_set ?_ GE215.out | refine below_set ?_ GE220.out | refine below_set ?_ GE226.out) | exact HB.out))) : w.heap.size ≤ gb248)); have n12_ := Aside0.mk ((by rw [hg]; exact (below_size (by repeat (first | (with_reducible first | exact HB.out | apply below_alloc | apply pw_below_drewN | apply below_drew1 | refine below_set ?_ GE204.out | refine below_set ?_ GE215.out | refine below_set ?_ GE220.out | refine below_set ?_ GE226.out) | exact HB.out))) : w.heap.size ≤ gb248)); have n13_ := Aside0.mk ((by rw [hg]; exact Nat.ne_of_lt (blk_lt (g := gb204) (o := .cells #[.int .i64 a0_0, .slice A0_1 l0_1.length c0_1] 24 (0, 0)) (by (with_reducible repeat (first | refine blk_drewN ?_ _ | refine blk_drew ?_ | refine blk_alloc ?_ _)); exact BK204.out)) : gb204 ≠ gb248)); have n14_ := Aside0.mk ((by rw [hg]; exact Nat.ne_of_gt (blk_lt (g := gb204) (o := .cells #[.int .i64 a0_0, .slice A0_1 l0_1.length c0_1] 24 (0, 0)) (by (with_reducible repeat (first | refine blk_drewN ?_ _ | refine blk_drew ?_ | refine blk_alloc ?_ _)); exact BK204.out)) : gb248 ≠ gb204)); have n15_ := Aside0.mk ((by rw [hg]; exact Nat.ne_of_lt (blk_lt (g := gb215) (o := .cells #[.int .i64 t210, .slice Ao24 t211.length co24] 28 (0, 0)) (by (with_reducible repeat (first | refine blk_drewN ?_ _ | refine blk_drew ?_ | refine blk_alloc ?_ _)); exact BK215.out)) : gb215 ≠ gb248)); have n16_ := Aside0.mk ((by rw [hg]; exact Nat.ne_of_gt (blk_lt (g := gb215) (o := .cells #[.int .i64 t210, .slice Ao24 t211.length co24] 28 (0, 0)) (by (with_reducible repeat (first | refine blk_drewN ?_ _ | refine blk_drew ?_ | refine blk_alloc ?_ _)); exact BK215.out)) : gb248 ≠ gb215)); have n17_ := Aside0.mk ((by rw [hg]; exact Nat.ne_of_lt (blk_lt (g := gb220) (o := .cells #[.int .i64 t216, .slice Ao31 t234.length co31] 28 (0, 0)) (by (with_reducible repeat (first | refine blk_drewN ?_ _ | refine blk_drew ?_ | refine blk_alloc ?_ _)); exact BK220.out)) : gb220 ≠ gb248)); have n18_ := Aside0.mk ((by rw [hg]; exact Nat.ne_of_gt (blk_lt (g := gb220) (o := .cells #[.int .i64 t216, .slice Ao31 t234.length co31] 28 (0, 0)) (by (with_reducible repeat (first | refine blk_drewN ?_ _ | refine blk_drew ?_ | refine blk_alloc ?_ _)); exact BK220.out)) : gb248 ≠ gb220)); have n19_ := Aside0.mk ((by rw [hg]; exact Nat.ne_of_lt (blk_lt (g := gb226) (o := .cells #[.int .i64 t221, .slice Ao38 t222.length co38] 28 (0, 0)) (by (with_reducible repeat (first | refine blk_drewN ?_ _ | refine blk_drew ?_ | refine blk_alloc ?_ _)); exact BK226.out)) : gb226 ≠ gb248)); have n20_ := Aside0.mk ((by rw [hg]; exact Nat.ne_of_gt (blk_lt (g := gb226) (o := .cells #[.int .i64 t221, .slice Ao38 t222.length co38] 28 (0, 0)) (by (with_reducible repeat (first | refine blk_drewN ?_ _ | refine blk_drew ?_ | refine blk_alloc ?_ _)); exact BK226.out)) : gb248 ≠ gb226)); clear HO_216001; clear HO_221001; clear HO_227001; clear HO242; clear HO246; clear BK204; clear BK215; clear BK220; clear BK226; clear HB; have HO_216001 := n0_; have HO_221001 := n1_; have HO_227001 := n2_; have HO242 := n3_; have HO246 := n4_; have BK204 := n5_; have BK215 := n6_; have BK220 := n7_; have BK226 := n8_; have HB := n9_; have BK248 := n10_; have GW248 := n11_; have GE248 := n12_; have NB204_248 := n13_; have NB248_204 := n14_; have NB215_248 := n15_; have NB248_215 := n16_; have NB220_248 := n17_; have NB248_220 := n18_; have NB226_248 := n19_; have NB248_226 := n20_; clear n0_ n1_ n2_ n3_ n4_ n5_ n6_ n7_ n8_ n9_ n10_ n11_ n12_ n13_ n14_ n15_ n16_ n17_ n18_ n19_ n20_; clear hb hbox hg; have hnb120 := NB248_204.out; have hnc120 := NB204_248.out; have hnb121 := NB248_215.out; have hnc121 := NB215_248.out; have hnb122 := NB248_220.out; have hnc122 := NB220_248.out; have hnb123 := NB248_226.out; have hnc123 := NB226_248.out; have hcz124_0 : w119.cell? ⟨gb248, 0, none⟩ = some (.int .i64 0) := (blk_cell BK248.out 0).trans rfl; have hcz124_1 : w119.cell? ⟨gb248, 1, none⟩ = some (.slice none 0 0) := (blk_cell BK248.out 1).trans rfl; have hfz124_0 := blk_frozen BK248.out 0; have hfz124_1 := blk_frozen BK248.out 1; obtain ⟨Ao125, co125, eo125⟩ := Kd.R_slice HO246.out; subst eo125))
                      (try simp only [Act.put, List.setIfInBounds_toArray, List.set_cons_zero, List.set_cons_succ])
                      go_cut [97] (fun v97 wc => ∃ (kq : Nat) (x97_104 : Bool), v97 = .bool x97_104 ∧ Aside0 (laws_FnExactAddOr.j2 kq t236 x97_104 t221 t237 = some r) ∧ Aside0 (kq ≤ kj61) ∧ Aside0 (Kd.R k57 57 wc w.heap.size (fun k_ => some k_ ≠ ((.slice Ao31 t234.length co31) : Value).ownBlock ∧ some k_ ≠ ((.slice Ao38 t222.length co38) : Value).ownBlock ∧ some k_ ≠ ((.slice Ao125 t244.length co125) : Value).ownBlock) (.slice Ao24 t211.length co24) t211) ∧ Aside0 (Kd.R k57 57 wc w.heap.size (fun k_ => some k_ ≠ ((.slice Ao24 t211.length co24) : Value).ownBlock ∧ some k_ ≠ ((.slice Ao38 t222.length co38) : Value).ownBlock ∧ some k_ ≠ ((.slice Ao125 t244.length co125) : Value).ownBlock) (.slice Ao31 t234.length co31) t234) ∧ Aside0 (Kd.R k57 57 wc w.heap.size (fun k_ => some k_ ≠ ((.slice Ao24 t211.length co24) : Value).ownBlock ∧ some k_ ≠ ((.slice Ao31 t234.length co31) : Value).ownBlock ∧ some k_ ≠ ((.slice Ao125 t244.length co125) : Value).ownBlock) (.slice Ao38 t222.length co38) t237) ∧ Aside0 (Kd.R k57 57 wc w.heap.size (fun k_ => some k_ ≠ ((.slice Ao24 t211.length co24) : Value).ownBlock ∧ some k_ ≠ ((.slice Ao31 t234.length co31) : Value).ownBlock ∧ some k_ ≠ ((.slice Ao38 t222.length co38) : Value).ownBlock) (.slice Ao125 t244.length co125) t244) ∧ Aside0 (wc.heap[gb204]? = some (.cells #[.int .i64 a0_0, (.slice A0_1 l0_1.length c0_1)] 24 (0, 0))) ∧ Aside0 (wc.heap[gb215]? = some (.cells #[.int .i64 t210, (.slice Ao24 t211.length co24)] 28 (0, 0))) ∧ Aside0 (wc.heap[gb220]? = some (.cells #[.int .i64 t216, (.slice Ao31 t234.length co31)] 28 (0, 0))) ∧ Aside0 (wc.heap[gb226]? = some (.cells #[.int .i64 t221, (.slice Ao38 t222.length co38)] 28 (0, 0))) ∧ Aside0 (wc.heap[gb248]? = some (.cells #[.int .i64 t243, (.slice Ao125 t244.length co125)] 28 (0, 0))) ∧ Aside0 (Below w.heap.size w wc))
                      case first =>
                        have H := HC105.out
                        clear HC105
                        replace H := Option.bind_eq_some_iff.mp H
                        obtain ⟨t249, A1260, H⟩ := H
                        replace H : (if t249 = true then (laws_FnExactAddOr.j2 kj61 t236 (t247 != t214) t221 t237) else (laws_FnExactAddOr.j2 kj61 t236 true t221 t237)) = some r := H
                        have A126 := Aside0.mk A1260
                        clear A1260
                        by_cases c127 : t249 = true
                        · subst c127
                          have H1 : (laws_FnExactAddOr.j2 kj61 t236 (t247 != t214) t221 t237) = some r := by rw [if_pos rfl] at H; exact H
                          clear H
                          have H := H1
                          clear H1
                          have H' := Aside0.mk H
                          clear H
                          have hnb128 := NB248_204.out
                          have hnc128 := NB204_248.out
                          have hnb129 := NB248_215.out
                          have hnc129 := NB215_248.out
                          have hnb130 := NB248_220.out
                          have hnc130 := NB220_248.out
                          have hnb131 := NB248_226.out
                          have hnc131 := NB226_248.out
                          have hcz132_0 : w119.cell? ⟨gb248, 0, none⟩ = some (.int .i64 0) := (blk_cell BK248.out 0).trans rfl
                          have hcz132_1 : w119.cell? ⟨gb248, 1, none⟩ = some (.slice none 0 0) := (blk_cell BK248.out 1).trans rfl
                          have hfz132_0 := blk_frozen BK248.out 0
                          have hfz132_1 := blk_frozen BK248.out 1
                          have hnb133 := NB215_204.out
                          have hnc133 := NB204_215.out
                          have hnb134 := NB215_220.out
                          have hnc134 := NB220_215.out
                          have hnb135 := NB215_226.out
                          have hnc135 := NB226_215.out
                          have hcz136_0 : w119.cell? ⟨gb215, 0, none⟩ = some (.int .i64 t210) := (blk_cell BK215.out 0).trans rfl
                          have hcz136_1 : w119.cell? ⟨gb215, 1, none⟩ = some (.slice Ao24 t211.length co24) := (blk_cell BK215.out 1).trans rfl
                          have hfz136_0 := blk_frozen BK215.out 0
                          have hfz136_1 := blk_frozen BK215.out 1
                          go_wp2_with (first | ((with_reducible refine gate_callee (f := 10) rfl ?_); refine goesL_ (some 91) rfl rfl Try.func10 (by kernel_rfl) rfl #[.agg #[.int .i64 t243, .slice Ao125 t244.length co125], .agg #[.int .i64 t210, .slice Ao24 t211.length co24]] rfl (by (try simp only [List.map_toArray, List.map_cons, List.map_nil]); first | done | rfl | (simp only [List.length_drop, List.length_take]; rfl)) ?_; (with_reducible refine (laws_eqCircuit.calls kj61 t243 _ _ t244 t210 _ _ t211 true _ ?side1 ?side2 ?side3 ?side4 A126.out).mono ?_); (case side1 => refine (Kd.R_reads' (e := 57) (base := w.heap.size) (ok := fun k_ => ((((True ∧ some k_ ≠ (.slice Ao24 t211.length co24 : Value).ownBlock) ∧ some k_ ≠ (.slice Ao31 t234.length co31 : Value).ownBlock) ∧ some k_ ≠ (.slice Ao38 t222.length co38 : Value).ownBlock) ∧ some k_ ≠ (.slice Ao117 t240.length co117 : Value).ownBlock)) (n := t244.length) (c := co125) ?_).2.2; exact (by (with_reducible repeat (first | apply Kd.R_alloc | apply Kd.R_drewN | apply Kd.R_drew)); exact (Kd.R_mono (Kd.R_far (p := ⟨gb248, 1, none⟩) (Kd.R_far (p := ⟨gb248, 0, none⟩) (Kd.R_types HO246.out BK248.out (by decide)) (fun _ hk => hk.2) (.int .i64 t243)) (fun _ hk => hk.2) (.slice Ao125 t244.length co125)) (fun _ h_ => h_.1)))); (case side2 => exact (Kd.R_reads' HO246.out).2.1); (case side3 => refine (Kd.R_reads' (e := 57) (base := w.heap.size) (ok := fun k_ => (((some k_ ≠ (.slice Ao31 t234.length co31 : Value).ownBlock ∧ some k_ ≠ (.slice Ao38 t222.length co38 : Value).ownBlock) ∧ some k_ ≠ (.slice Ao117 t240.length co117 : Value).ownBlock) ∧ some k_ ≠ (.slice Ao125 t244.length co125 : Value).ownBlock)) (n := t211.length) (c := co24) ?_).2.2; exact (by (with_reducible repeat (first | apply Kd.R_alloc | apply Kd.R_drewN | apply Kd.R_drew)); exact (Kd.R_mono (Kd.R_far (p := ⟨gb248, 1, none⟩) (Kd.R_far (p := ⟨gb248, 0, none⟩) (Kd.R_types HO_216001.out BK248.out (by decide)) (fun _ hk => hk.2) (.int .i64 t243)) (fun _ hk => hk.2) (.slice Ao125 t244.length co125)) (fun _ h_ => h_.1)))); (case side4 => exact (Kd.R_reads' HO_216001.out).2.1); rintro e w137 ⟨rfl, hb⟩; refine ⟨_, rfl, ?_⟩; have n0_ := Aside0.mk (Kd.R_below (by (with_reducible repeat (first | apply Kd.R_alloc | apply Kd.R_drewN | apply Kd.R_drew)); exact (Kd.R_mono (Kd.R_far (p := ⟨gb248, 1, none⟩) (Kd.R_far (p := ⟨gb248, 0, none⟩) (Kd.R_types HO_216001.out BK248.out (by decide)) (fun _ hk => hk.2) (.int .i64 t243)) (fun _ hk => hk.2) (.slice Ao125 t244.length co125)) (fun _ h_ => h_.1))) hb); have n1_ := Aside0.mk (Kd.R_below (by (with_reducible repeat (first | apply Kd.R_alloc | apply Kd.R_drewN | apply Kd.R_drew)); exact (Kd.R_mono (Kd.R_far (p := ⟨gb248, 1, none⟩) (Kd.R_far (p := ⟨gb248, 0, none⟩) (Kd.R_types HO_221001.out BK248.out (by decide)) (fun _ hk => hk.2) (.int .i64 t243)) (fun _ hk => hk.2) (.slice Ao125 t244.length co125)) (fun _ h_ => h_.1))) hb); have n2_ := Aside0.mk (Kd.R_below (by (with_reducible repeat (first | apply Kd.R_alloc | apply Kd.R_drewN | apply Kd.R_drew)); exact (Kd.R_mono (Kd.R_far (p := ⟨gb248, 1, none⟩) (Kd.R_far (p := ⟨gb248, 0, none⟩) (Kd.R_types HO_227001.out BK248.out (by decide)) (fun _ hk => hk.2) (.int .i64 t243)) (fun _ hk => hk.2) (.slice Ao125 t244.length co125)) (fun _ h_ => h_.1))) hb); have n3_ := Aside0.mk (Kd.R_below (by (with_reducible repeat (first | apply Kd.R_alloc | apply Kd.R_drewN | apply Kd.R_drew)); exact (Kd.R_mono (Kd.R_far (p := ⟨gb248, 1, none⟩) (Kd.R_far (p := ⟨gb248, 0, none⟩) (Kd.R_types HO242.out BK248.out (by decide)) (fun _ hk => hk.2) (.int .i64 t243)) (fun _ hk => hk.2) (.slice Ao125 t244.length co125)) (fun _ h_ => h_.1))) hb); have n4_ := Aside0.mk (Kd.R_below (by (with_reducible repeat (first | apply Kd.R_alloc | apply Kd.R_drewN | apply Kd.R_drew)); exact (Kd.R_mono (Kd.R_far (p := ⟨gb248, 1, none⟩) (Kd.R_far (p := ⟨gb248, 0, none⟩) (Kd.R_types HO246.out BK248.out (by decide)) (fun _ hk => hk.2) (.int .i64 t243)) (fun _ hk => hk.2) (.slice Ao125 t244.length co125)) (fun _ h_ => h_.1))) hb); have n5_ := Aside0.mk (blk_below (g := gb204) (o := .cells #[.int .i64 a0_0, .slice A0_1 l0_1.length c0_1] 24 (0, 0)) (by (with_reducible repeat (first | refine blk_drewN ?_ _ | refine blk_drew ?_ | refine blk_alloc ?_ _)); refine blk_far ?_ NB204_248.out _; (with_reducible repeat (first | refine blk_drewN ?_ _ | refine blk_drew ?_ | refine blk_alloc ?_ _)); refine blk_far ?_ NB204_248.out _; (with_reducible repeat (first | refine blk_drewN ?_ _ | refine blk_drew ?_ | refine blk_alloc ?_ _)); exact BK204.out) hb); have n6_ := Aside0.mk (blk_below (g := gb215) (o := .cells #[.int .i64 t210, .slice Ao24 t211.length co24] 28 (0, 0)) (by (with_reducible repeat (first | refine blk_drewN ?_ _ | refine blk_drew ?_ | refine blk_alloc ?_ _)); refine blk_far ?_ NB215_248.out _; (with_reducible repeat (first | refine blk_drewN ?_ _ | refine blk_drew ?_ | refine blk_alloc ?_ _)); refine blk_far ?_ NB215_248.out _; (with_reducible repeat (first | refine blk_drewN ?_ _ | refine blk_drew ?_ | refine blk_alloc ?_ _)); exact BK215.out) hb); have n7_ := Aside0.mk (blk_below (g := gb220) (o := .cells #[.int .i64 t216, .slice Ao31 t234.length co31] 28 (0, 0)) (by (with_reducible repeat (first | refine blk_drewN ?_ _ | refine blk_drew ?_ | refine blk_alloc ?_ _)); refine blk_far ?_ NB220_248.out _; (with_reducible repeat (first | refine blk_drewN ?_ _ | refine blk_drew ?_ | refine blk_alloc ?_ _)); refine blk_far ?_ NB220_248.out _; (with_reducible repeat (first | refine blk_drewN ?_ _ | refine blk_drew ?_ | refine blk_alloc ?_ _)); exact BK220.out) hb); have n8_ := Aside0.mk (blk_below (g := gb226) (o := .cells #[.int .i64 t221, .slice Ao38 t222.length co38] 28 (0, 0)) (by (with_reducible repeat (first | refine blk_drewN ?_ _ | refine blk_drew ?_ | refine blk_alloc ?_ _)); refine blk_far ?_ NB226_248.out _; (with_reducible repeat (first | refine blk_drewN ?_ _ | refine blk_drew ?_ | refine blk_alloc ?_ _)); refine blk_far ?_ NB226_248.out _; (with_reducible repeat (first | refine blk_drewN ?_ _ | refine blk_drew ?_ | refine blk_alloc ?_ _)); exact BK226.out) hb); have n9_ := Aside0.mk (blk_below (g := gb248) (o := .cells #[.int .i64 t243, .slice Ao125 t244.length co125] 28 (0, 0)) (by (with_reducible repeat (first | refine blk_drewN ?_ _ | refine blk_drew ?_ | refine blk_alloc ?_ _)); refine blk_put (cs := #[.int .i64 t243, .slice none 0 0]) ?_ 1 _ rfl; (with_reducible repeat (first | refine blk_drewN ?_ _ | refine blk_drew ?_ | refine blk_alloc ?_ _)); refine blk_put (cs := #[.int .i64 0, .slice none 0 0]) ?_ 0 _ rfl; (with_reducible repeat (first | refine blk_drewN ?_ _ | refine blk_drew ?_ | refine blk_alloc ?_ _)); exact BK248.out) hb); have n10_ := Aside0.mk (below_step (by repeat (first | (with_reducible first | exact HB.out | apply below_alloc | apply pw_below_drewN | apply below_drew1 | refine below_set ?_ GE204.out | refine below_set ?_ GE215.out | refine below_set ?_ GE220.out | refine below_set ?_ GE226.out | refine below_set ?_ GE248.out) | exact HB.out)) hb); clear HO_216001; clear HO_221001; clear HO_227001; clear HO242; clear HO246; clear BK204; clear BK215; clear BK220; clear BK226; clear BK248; clear HB; have HO_216001 := n0_; have HO_221001 := n1_; have HO_227001 := n2_; have HO242 := n3_; have HO246 := n4_; have BK204 := n5_; have BK215 := n6_; have BK220 := n7_; have BK226 := n8_; have BK248 := n9_; have HB := n10_; clear n0_ n1_ n2_ n3_ n4_ n5_ n6_ n7_ n8_ n9_ n10_; (try clear hb); (try clear hb2); (try clear hk); (try clear hi)))
                          go_meet
                          case rel => exact ⟨_, ((t247 != t214)), (by first | rfl | (simp; done) | (simp [*]; done)), H', ⟨by have := HJ12.out; have := HJ61.out; first | omega | exact Nat.le_refl _⟩, ⟨by (try simp only [hl221001_61]); (with_reducible repeat (first | apply Kd.R_alloc | apply Kd.R_drewN | apply Kd.R_drew)); exact Kd.R_mono HO_216001.out (fun _ hk => ⟨hk.1.1.1, ⟨hk.1.1.2, hk.2⟩⟩)⟩, ⟨by (try simp only [hl221001_61]); (with_reducible repeat (first | apply Kd.R_alloc | apply Kd.R_drewN | apply Kd.R_drew)); exact Kd.R_mono HO_221001.out (fun _ hk => ⟨hk.1.1.1, ⟨hk.1.1.2, hk.2⟩⟩)⟩, ⟨by (try simp only [hl221001_61]); (with_reducible repeat (first | apply Kd.R_alloc | apply Kd.R_drewN | apply Kd.R_drew)); exact Kd.R_mono HO_227001.out (fun _ hk => ⟨hk.1.1.1, ⟨hk.1.1.2, hk.2⟩⟩)⟩, ⟨by (try simp only [hl221001_61]); (with_reducible repeat (first | apply Kd.R_alloc | apply Kd.R_drewN | apply Kd.R_drew)); exact Kd.R_mono HO246.out (fun _ hk => ⟨hk.1.1.1.2, ⟨hk.1.1.2, hk.1.2⟩⟩)⟩, ⟨by (try simp only [hl221001_61]); (with_reducible repeat (first | refine blk_drewN ?_ _ | refine blk_drew ?_ | refine blk_alloc ?_ _)); exact BK204.out⟩, ⟨by (try simp only [hl221001_61]); (with_reducible repeat (first | refine blk_drewN ?_ _ | refine blk_drew ?_ | refine blk_alloc ?_ _)); exact BK215.out⟩, ⟨by (try simp only [hl221001_61]); (with_reducible repeat (first | refine blk_drewN ?_ _ | refine blk_drew ?_ | refine blk_alloc ?_ _)); exact BK220.out⟩, ⟨by (try simp only [hl221001_61]); (with_reducible repeat (first | refine blk_drewN ?_ _ | refine blk_drew ?_ | refine blk_alloc ?_ _)); exact BK226.out⟩, ⟨by (try simp only [hl221001_61]); (with_reducible repeat (first | refine blk_drewN ?_ _ | refine blk_drew ?_ | refine blk_alloc ?_ _)); exact BK248.out⟩, ⟨by repeat (first | (with_reducible first | exact HB.out | apply below_alloc | apply pw_below_drewN | apply below_drew1 | refine below_set ?_ GE204.out | refine below_set ?_ GE215.out | refine below_set ?_ GE220.out | refine below_set ?_ GE226.out | refine below_set ?_ GE248.out) | exact HB.out)⟩⟩
                        · replace c127 := Bool.eq_false_iff.mpr c127
                          subst c127
                          have H1 : (laws_FnExactAddOr.j2 kj61 t236 true t221 t237) = some r := by rw [if_neg (show ¬ (false = true) by decide)] at H; exact H
                          clear H
                          have H := H1
                          clear H1
                          have H' := Aside0.mk H
                          clear H
                          have hnb138 := NB248_204.out
                          have hnc138 := NB204_248.out
                          have hnb139 := NB248_215.out
                          have hnc139 := NB215_248.out
                          have hnb140 := NB248_220.out
                          have hnc140 := NB220_248.out
                          have hnb141 := NB248_226.out
                          have hnc141 := NB226_248.out
                          have hcz142_0 : w119.cell? ⟨gb248, 0, none⟩ = some (.int .i64 0) := (blk_cell BK248.out 0).trans rfl
                          have hcz142_1 : w119.cell? ⟨gb248, 1, none⟩ = some (.slice none 0 0) := (blk_cell BK248.out 1).trans rfl
                          have hfz142_0 := blk_frozen BK248.out 0
                          have hfz142_1 := blk_frozen BK248.out 1
                          have hnb143 := NB215_204.out
                          have hnc143 := NB204_215.out
                          have hnb144 := NB215_220.out
                          have hnc144 := NB220_215.out
                          have hnb145 := NB215_226.out
                          have hnc145 := NB226_215.out
                          have hcz146_0 : w119.cell? ⟨gb215, 0, none⟩ = some (.int .i64 t210) := (blk_cell BK215.out 0).trans rfl
                          have hcz146_1 : w119.cell? ⟨gb215, 1, none⟩ = some (.slice Ao24 t211.length co24) := (blk_cell BK215.out 1).trans rfl
                          have hfz146_0 := blk_frozen BK215.out 0
                          have hfz146_1 := blk_frozen BK215.out 1
                          go_wp2_with (first | ((with_reducible refine gate_callee (f := 10) rfl ?_); refine goesL_ (some 91) rfl rfl Try.func10 (by kernel_rfl) rfl #[.agg #[.int .i64 t243, .slice Ao125 t244.length co125], .agg #[.int .i64 t210, .slice Ao24 t211.length co24]] rfl (by (try simp only [List.map_toArray, List.map_cons, List.map_nil]); first | done | rfl | (simp only [List.length_drop, List.length_take]; rfl)) ?_; (with_reducible refine (laws_eqCircuit.calls kj61 t243 _ _ t244 t210 _ _ t211 false _ ?side1 ?side2 ?side3 ?side4 A126.out).mono ?_); (case side1 => refine (Kd.R_reads' (e := 57) (base := w.heap.size) (ok := fun k_ => ((((True ∧ some k_ ≠ (.slice Ao24 t211.length co24 : Value).ownBlock) ∧ some k_ ≠ (.slice Ao31 t234.length co31 : Value).ownBlock) ∧ some k_ ≠ (.slice Ao38 t222.length co38 : Value).ownBlock) ∧ some k_ ≠ (.slice Ao117 t240.length co117 : Value).ownBlock)) (n := t244.length) (c := co125) ?_).2.2; exact (by (with_reducible repeat (first | apply Kd.R_alloc | apply Kd.R_drewN | apply Kd.R_drew)); exact (Kd.R_mono (Kd.R_far (p := ⟨gb248, 1, none⟩) (Kd.R_far (p := ⟨gb248, 0, none⟩) (Kd.R_types HO246.out BK248.out (by decide)) (fun _ hk => hk.2) (.int .i64 t243)) (fun _ hk => hk.2) (.slice Ao125 t244.length co125)) (fun _ h_ => h_.1)))); (case side2 => exact (Kd.R_reads' HO246.out).2.1); (case side3 => refine (Kd.R_reads' (e := 57) (base := w.heap.size) (ok := fun k_ => (((some k_ ≠ (.slice Ao31 t234.length co31 : Value).ownBlock ∧ some k_ ≠ (.slice Ao38 t222.length co38 : Value).ownBlock) ∧ some k_ ≠ (.slice Ao117 t240.length co117 : Value).ownBlock) ∧ some k_ ≠ (.slice Ao125 t244.length co125 : Value).ownBlock)) (n := t211.length) (c := co24) ?_).2.2; exact (by (with_reducible repeat (first | apply Kd.R_alloc | apply Kd.R_drewN | apply Kd.R_drew)); exact (Kd.R_mono (Kd.R_far (p := ⟨gb248, 1, none⟩) (Kd.R_far (p := ⟨gb248, 0, none⟩) (Kd.R_types HO_216001.out BK248.out (by decide)) (fun _ hk => hk.2) (.int .i64 t243)) (fun _ hk => hk.2) (.slice Ao125 t244.length co125)) (fun _ h_ => h_.1)))); (case side4 => exact (Kd.R_reads' HO_216001.out).2.1); rintro e w147 ⟨rfl, hb⟩; refine ⟨_, rfl, ?_⟩; have n0_ := Aside0.mk (Kd.R_below (by (with_reducible repeat (first | apply Kd.R_alloc | apply Kd.R_drewN | apply Kd.R_drew)); exact (Kd.R_mono (Kd.R_far (p := ⟨gb248, 1, none⟩) (Kd.R_far (p := ⟨gb248, 0, none⟩) (Kd.R_types HO_216001.out BK248.out (by decide)) (fun _ hk => hk.2) (.int .i64 t243)) (fun _ hk => hk.2) (.slice Ao125 t244.length co125)) (fun _ h_ => h_.1))) hb); have n1_ := Aside0.mk (Kd.R_below (by (with_reducible repeat (first | apply Kd.R_alloc | apply Kd.R_drewN | apply Kd.R_drew)); exact (Kd.R_mono (Kd.R_far (p := ⟨gb248, 1, none⟩) (Kd.R_far (p := ⟨gb248, 0, none⟩) (Kd.R_types HO_221001.out BK248.out (by decide)) (fun _ hk => hk.2) (.int .i64 t243)) (fun _ hk => hk.2) (.slice Ao125 t244.length co125)) (fun _ h_ => h_.1))) hb); have n2_ := Aside0.mk (Kd.R_below (by (with_reducible repeat (first | apply Kd.R_alloc | apply Kd.R_drewN | apply Kd.R_drew)); exact (Kd.R_mono (Kd.R_far (p := ⟨gb248, 1, none⟩) (Kd.R_far (p := ⟨gb248, 0, none⟩) (Kd.R_types HO_227001.out BK248.out (by decide)) (fun _ hk => hk.2) (.int .i64 t243)) (fun _ hk => hk.2) (.slice Ao125 t244.length co125)) (fun _ h_ => h_.1))) hb); have n3_ := Aside0.mk (Kd.R_below (by (with_reducible repeat (first | apply Kd.R_alloc | apply Kd.R_drewN | apply Kd.R_drew)); exact (Kd.R_mono (Kd.R_far (p := ⟨gb248, 1, none⟩) (Kd.R_far (p := ⟨gb248, 0, none⟩) (Kd.R_types HO242.out BK248.out (by decide)) (fun _ hk => hk.2) (.int .i64 t243)) (fun _ hk => hk.2) (.slice Ao125 t244.length co125)) (fun _ h_ => h_.1))) hb); have n4_ := Aside0.mk (Kd.R_below (by (with_reducible repeat (first | apply Kd.R_alloc | apply Kd.R_drewN | apply Kd.R_drew)); exact (Kd.R_mono (Kd.R_far (p := ⟨gb248, 1, none⟩) (Kd.R_far (p := ⟨gb248, 0, none⟩) (Kd.R_types HO246.out BK248.out (by decide)) (fun _ hk => hk.2) (.int .i64 t243)) (fun _ hk => hk.2) (.slice Ao125 t244.length co125)) (fun _ h_ => h_.1))) hb); have n5_ := Aside0.mk (blk_below (g := gb204) (o := .cells #[.int .i64 a0_0, .slice A0_1 l0_1.length c0_1] 24 (0, 0)) (by (with_reducible repeat (first | refine blk_drewN ?_ _ | refine blk_drew ?_ | refine blk_alloc ?_ _)); refine blk_far ?_ NB204_248.out _; (with_reducible repeat (first | refine blk_drewN ?_ _ | refine blk_drew ?_ | refine blk_alloc ?_ _)); refine blk_far ?_ NB204_248.out _; (with_reducible repeat (first | refine blk_drewN ?_ _ | refine blk_drew ?_ | refine blk_alloc ?_ _)); exact BK204.out) hb); have n6_ := Aside0.mk (blk_below (g := gb215) (o := .cells #[.int .i64 t210, .slice Ao24 t211.length co24] 28 (0, 0)) (by (with_reducible repeat (first | refine blk_drewN ?_ _ | refine blk_drew ?_ | refine blk_alloc ?_ _)); refine blk_far ?_ NB215_248.out _; (with_reducible repeat (first | refine blk_drewN ?_ _ | refine blk_drew ?_ | refine blk_alloc ?_ _)); refine blk_far ?_ NB215_248.out _; (with_reducible repeat (first | refine blk_drewN ?_ _ | refine blk_drew ?_ | refine blk_alloc ?_ _)); exact BK215.out) hb); have n7_ := Aside0.mk (blk_below (g := gb220) (o := .cells #[.int .i64 t216, .slice Ao31 t234.length co31] 28 (0, 0)) (by (with_reducible repeat (first | refine blk_drewN ?_ _ | refine blk_drew ?_ | refine blk_alloc ?_ _)); refine blk_far ?_ NB220_248.out _; (with_reducible repeat (first | refine blk_drewN ?_ _ | refine blk_drew ?_ | refine blk_alloc ?_ _)); refine blk_far ?_ NB220_248.out _; (with_reducible repeat (first | refine blk_drewN ?_ _ | refine blk_drew ?_ | refine blk_alloc ?_ _)); exact BK220.out) hb); have n8_ := Aside0.mk (blk_below (g := gb226) (o := .cells #[.int .i64 t221, .slice Ao38 t222.length co38] 28 (0, 0)) (by (with_reducible repeat (first | refine blk_drewN ?_ _ | refine blk_drew ?_ | refine blk_alloc ?_ _)); refine blk_far ?_ NB226_248.out _; (with_reducible repeat (first | refine blk_drewN ?_ _ | refine blk_drew ?_ | refine blk_alloc ?_ _)); refine blk_far ?_ NB226_248.out _; (with_reducible repeat (first | refine blk_drewN ?_ _ | refine blk_drew ?_ | refine blk_alloc ?_ _)); exact BK226.out) hb); have n9_ := Aside0.mk (blk_below (g := gb248) (o := .cells #[.int .i64 t243, .slice Ao125 t244.length co125] 28 (0, 0)) (by (with_reducible repeat (first | refine blk_drewN ?_ _ | refine blk_drew ?_ | refine blk_alloc ?_ _)); refine blk_put (cs := #[.int .i64 t243, .slice none 0 0]) ?_ 1 _ rfl; (with_reducible repeat (first | refine blk_drewN ?_ _ | refine blk_drew ?_ | refine blk_alloc ?_ _)); refine blk_put (cs := #[.int .i64 0, .slice none 0 0]) ?_ 0 _ rfl; (with_reducible repeat (first | refine blk_drewN ?_ _ | refine blk_drew ?_ | refine blk_alloc ?_ _)); exact BK248.out) hb); have n10_ := Aside0.mk (below_step (by repeat (first | (with_reducible first | exact HB.out | apply below_alloc | apply pw_below_drewN | apply below_drew1 | refine below_set ?_ GE204.out | refine below_set ?_ GE215.out | refine below_set ?_ GE220.out | refine below_set ?_ GE226.out | refine below_set ?_ GE248.out) | exact HB.out)) hb); clear HO_216001; clear HO_221001; clear HO_227001; clear HO242; clear HO246; clear BK204; clear BK215; clear BK220; clear BK226; clear BK248; clear HB; have HO_216001 := n0_; have HO_221001 := n1_; have HO_227001 := n2_; have HO242 := n3_; have HO246 := n4_; have BK204 := n5_; have BK215 := n6_; have BK220 := n7_; have BK226 := n8_; have BK248 := n9_; have HB := n10_; clear n0_ n1_ n2_ n3_ n4_ n5_ n6_ n7_ n8_ n9_ n10_; (try clear hb); (try clear hb2); (try clear hk); (try clear hi)))
                          go_meet
                          case rel => exact ⟨_, (true), (by first | rfl | (simp; done) | (simp [*]; done)), H', ⟨by have := HJ12.out; have := HJ61.out; first | omega | exact Nat.le_refl _⟩, ⟨by (try simp only [hl221001_61]); (with_reducible repeat (first | apply Kd.R_alloc | apply Kd.R_drewN | apply Kd.R_drew)); exact Kd.R_mono HO_216001.out (fun _ hk => ⟨hk.1.1.1, ⟨hk.1.1.2, hk.2⟩⟩)⟩, ⟨by (try simp only [hl221001_61]); (with_reducible repeat (first | apply Kd.R_alloc | apply Kd.R_drewN | apply Kd.R_drew)); exact Kd.R_mono HO_221001.out (fun _ hk => ⟨hk.1.1.1, ⟨hk.1.1.2, hk.2⟩⟩)⟩, ⟨by (try simp only [hl221001_61]); (with_reducible repeat (first | apply Kd.R_alloc | apply Kd.R_drewN | apply Kd.R_drew)); exact Kd.R_mono HO_227001.out (fun _ hk => ⟨hk.1.1.1, ⟨hk.1.1.2, hk.2⟩⟩)⟩, ⟨by (try simp only [hl221001_61]); (with_reducible repeat (first | apply Kd.R_alloc | apply Kd.R_drewN | apply Kd.R_drew)); exact Kd.R_mono HO246.out (fun _ hk => ⟨hk.1.1.1.2, ⟨hk.1.1.2, hk.1.2⟩⟩)⟩, ⟨by (try simp only [hl221001_61]); (with_reducible repeat (first | refine blk_drewN ?_ _ | refine blk_drew ?_ | refine blk_alloc ?_ _)); exact BK204.out⟩, ⟨by (try simp only [hl221001_61]); (with_reducible repeat (first | refine blk_drewN ?_ _ | refine blk_drew ?_ | refine blk_alloc ?_ _)); exact BK215.out⟩, ⟨by (try simp only [hl221001_61]); (with_reducible repeat (first | refine blk_drewN ?_ _ | refine blk_drew ?_ | refine blk_alloc ?_ _)); exact BK220.out⟩, ⟨by (try simp only [hl221001_61]); (with_reducible repeat (first | refine blk_drewN ?_ _ | refine blk_drew ?_ | refine blk_alloc ?_ _)); exact BK226.out⟩, ⟨by (try simp only [hl221001_61]); (with_reducible repeat (first | refine blk_drewN ?_ _ | refine blk_drew ?_ | refine blk_alloc ?_ _)); exact BK248.out⟩, ⟨by repeat (first | (with_reducible first | exact HB.out | apply below_alloc | apply pw_below_drewN | apply below_drew1 | refine below_set ?_ GE204.out | refine below_set ?_ GE215.out | refine below_set ?_ GE220.out | refine below_set ?_ GE226.out | refine below_set ?_ GE248.out) | exact HB.out)⟩⟩
                      case rest =>
                        clear HC105
                        try clear c1
                        try clear c2
                        try clear p2
                        try clear c3
                        try clear c4
                        try clear c5
                        try clear c5b0
                        try clear c6
                        try clear c7
                        try clear c8
                        try clear c9
                        try clear c10
                        try clear c11
                        try clear c12
                        try clear c13
                        try clear c14
                        try clear c22
                        try clear c28
                        try clear c29
                        try clear c34
                        try clear c35
                        try clear c36
                        try clear c40
                        try clear c41
                        try clear c42
                        try clear c43
                        try clear c45
                        try clear c46
                        try clear c49
                        try clear c50
                        try clear c51
                        try clear c53
                        try clear c54
                        try clear c57
                        try clear c60
                        try clear c67
                        try clear c68
                        try clear c69
                        try clear c72
                        try clear c72b0
                        try clear c72b1
                        try clear c74
                        try clear c75
                        try clear c76
                        try clear c77
                        try clear c79
                        try clear c80
                        try clear c83
                        try clear c84
                        try clear c85
                        try clear c87
                        try clear c88
                        try clear c91
                        try clear c94
                        try clear c94b0
                        try clear c95
                        try clear c96
                        try clear c97
                        try clear c102
                        try clear c102b0
                        try clear c102b1
                        try clear c106
                        try clear c107
                        try clear c108
                        try clear c113
                        try clear c114
                        try clear c120
                        try clear c121
                        try clear c122
                        try clear c123
                        try clear c127
                        try clear c128
                        try clear c129
                        try clear c130
                        try clear c131
                        try clear c133
                        try clear c134
                        try clear c135
                        try clear c138
                        try clear c139
                        try clear c140
                        try clear c141
                        try clear c143
                        try clear c144
                        try clear c145
                        try clear hcz100_0
                        try clear hcz100_1
                        try clear hcz109_0
                        try clear hcz109_1
                        try clear hcz111_0
                        try clear hcz111_1
                        try clear hcz115_0
                        try clear hcz115_1
                        try clear hcz124_0
                        try clear hcz124_1
                        try clear hcz132_0
                        try clear hcz132_1
                        try clear hcz136_0
                        try clear hcz136_1
                        try clear hcz142_0
                        try clear hcz142_1
                        try clear hcz146_0
                        try clear hcz146_1
                        try clear hcz15_0
                        try clear hcz15_1
                        try clear hcz17_0
                        try clear hcz17_1
                        try clear hcz23_0
                        try clear hcz23_1
                        try clear hcz25_0
                        try clear hcz25_1
                        try clear hcz30_0
                        try clear hcz30_1
                        try clear hcz37_0
                        try clear hcz37_1
                        try clear hcz44_0
                        try clear hcz44_1
                        try clear hcz47_0
                        try clear hcz47_1
                        try clear hcz52_0
                        try clear hcz52_1
                        try clear hcz55_0
                        try clear hcz55_1
                        try clear hcz70_0
                        try clear hcz70_1
                        try clear hcz78_0
                        try clear hcz78_1
                        try clear hcz7_0
                        try clear hcz7_1
                        try clear hcz81_0
                        try clear hcz81_1
                        try clear hcz86_0
                        try clear hcz86_1
                        try clear hcz89_0
                        try clear hcz89_1
                        try clear hcz98_0
                        try clear hcz98_1
                        try clear hfz100_0
                        try clear hfz100_1
                        try clear hfz109_0
                        try clear hfz109_1
                        try clear hfz111_0
                        try clear hfz111_1
                        try clear hfz115_0
                        try clear hfz115_1
                        try clear hfz124_0
                        try clear hfz124_1
                        try clear hfz132_0
                        try clear hfz132_1
                        try clear hfz136_0
                        try clear hfz136_1
                        try clear hfz142_0
                        try clear hfz142_1
                        try clear hfz146_0
                        try clear hfz146_1
                        try clear hfz15_0
                        try clear hfz15_1
                        try clear hfz17_0
                        try clear hfz17_1
                        try clear hfz23_0
                        try clear hfz23_1
                        try clear hfz25_0
                        try clear hfz25_1
                        try clear hfz30_0
                        try clear hfz30_1
                        try clear hfz37_0
                        try clear hfz37_1
                        try clear hfz44_0
                        try clear hfz44_1
                        try clear hfz47_0
                        try clear hfz47_1
                        try clear hfz52_0
                        try clear hfz52_1
                        try clear hfz55_0
                        try clear hfz55_1
                        try clear hfz70_0
                        try clear hfz70_1
                        try clear hfz78_0
                        try clear hfz78_1
                        try clear hfz7_0
                        try clear hfz7_1
                        try clear hfz81_0
                        try clear hfz81_1
                        try clear hfz86_0
                        try clear hfz86_1
                        try clear hfz89_0
                        try clear hfz89_1
                        try clear hfz98_0
                        try clear hfz98_1
                        try clear p2
                        obtain ⟨kq, x97_104, rfl, HA, HJ104, HO_216001, HO_221001, HO_227001, HO_249001, BK204, BK215, BK220, BK226, BK248, HB⟩ := hcut
                        have hl227001_104 := (Kd.R_reads' HO_227001.out).1
                        rw [hl227001_104] at HO_227001
                        (try simp only [hl227001_104])
                        (try simp only [hl227001_104] at BK204)
                        (try simp only [hl227001_104] at BK215)
                        (try simp only [hl227001_104] at BK220)
                        (try simp only [hl227001_104] at BK226)
                        (try simp only [hl227001_104] at BK248)
                        (try simp only [hl227001_104] at HO_216001)
                        (try simp only [hl227001_104] at HO_221001)
                        (try simp only [hl227001_104] at HO_249001)
                        cases kq with
                        | zero => exact absurd HA.out (by simp [laws_FnExactAddOr.j2])
                        | succ kj104 =>
                          have H := HA.out
                          clear HA
                          simp only [laws_FnExactAddOr.j2] at H
                          by_cases c148 : x97_104 = true
                          · subst c148
                            have H1 : (some false) = some r := by rw [if_pos rfl] at H; exact H
                            clear H
                            have H := H1
                            clear H1
                            obtain rfl := Option.some.inj H
                            go_wp2
                            go_ret
                            exact ⟨by first | rfl | (simp [errW_none, errW_some] <;> rfl) | (simp [*, errW_none, errW_some] <;> rfl), by repeat (first | (with_reducible first | exact HB.out | apply below_alloc | apply pw_below_drewN | apply below_drew1 | refine below_set ?_ GE204.out | refine below_set ?_ GE215.out | refine below_set ?_ GE220.out | refine below_set ?_ GE226.out | refine below_set ?_ GE248.out) | exact HB.out)⟩
                          · replace c148 := Bool.eq_false_iff.mpr c148
                            subst c148
                            have H1 : ((laws_heldCircuit.f kj104 t221 t237 1).bind fun t250 => (if t250 < 0 then (some false) else (if t250 = t236 then (some true) else (some false)))) = some r := by rw [if_neg (show ¬ (false = true) by decide)] at H; exact H
                            clear H
                            have H := H1
                            clear H1
                            replace H := Option.bind_eq_some_iff.mp H
                            obtain ⟨t250, A1490, H⟩ := H
                            replace H : (if t250 < 0 then (some false) else (if t250 = t236 then (some true) else (some false))) = some r := H
                            have A149 := Aside0.mk A1490
                            clear A1490
                            by_cases c150 : t250 < 0
                            · rw [if_pos c150] at H
                              have c150b0 : decide (t250 < 0) = true := decide_eq_true c150
                              (try (have c150b0z := c150b0; simp only [hl221001_61, hl227001_104] at c150b0z))
                              clear c150
                              obtain rfl := Option.some.inj H
                              have hnb151 := NB226_204.out
                              have hnc151 := NB204_226.out
                              have hnb152 := NB226_215.out
                              have hnc152 := NB215_226.out
                              have hnb153 := NB226_220.out
                              have hnc153 := NB220_226.out
                              have hnb154 := NB226_248.out
                              have hnc154 := NB248_226.out
                              have hcz155_0 : wc.cell? ⟨gb226, 0, none⟩ = some (.int .i64 t221) := (blk_cell BK226.out 0).trans rfl
                              have hcz155_1 : wc.cell? ⟨gb226, 1, none⟩ = some (.slice Ao38 t237.length co38) := (blk_cell BK226.out 1).trans rfl
                              have hfz155_0 := blk_frozen BK226.out 0
                              have hfz155_1 := blk_frozen BK226.out 1
                              go_wp2_with (first | ((with_reducible refine gate_callee (f := 12) rfl ?_); refine goesL_ (some 100) rfl rfl Try.func12 (by kernel_rfl) rfl #[.agg #[.int .i64 t221, .slice Ao38 t237.length co38], .int .i64 1] rfl (by (try simp only [List.map_toArray, List.map_cons, List.map_nil]); first | done | rfl | (simp only [List.length_drop, List.length_take]; rfl)) ?_; (with_reducible refine (laws_heldCircuit.calls kj104 t221 _ _ t237 1 t250 _ ?side1 ?side2 A149.out).mono ?_); (case side1 => repeat (first | exact (Kd.R_reads' HO_227001.out).2.2 | (with_reducible refine Kd.C_alloc ?_ _) | (with_reducible refine Kd.C_drewN ?_ _) | (with_reducible refine Kd.C_drew ?_))); (case side2 => exact (Kd.R_reads' HO_227001.out).2.1); rintro e w156 ⟨rfl, hb⟩; refine ⟨_, rfl, ?_⟩; have n0_ := Aside0.mk (Kd.R_below (by (with_reducible repeat (first | apply Kd.R_alloc | apply Kd.R_drewN | apply Kd.R_drew)); exact HO_216001.out) hb); have n1_ := Aside0.mk (Kd.R_below (by (with_reducible repeat (first | apply Kd.R_alloc | apply Kd.R_drewN | apply Kd.R_drew)); exact HO_221001.out) hb); have n2_ := Aside0.mk (Kd.R_below (by (with_reducible repeat (first | apply Kd.R_alloc | apply Kd.R_drewN | apply Kd.R_drew)); exact HO_227001.out) hb); have n3_ := Aside0.mk (Kd.R_below (by (with_reducible repeat (first | apply Kd.R_alloc | apply Kd.R_drewN | apply Kd.R_drew)); exact HO_249001.out) hb); have n4_ := Aside0.mk (blk_below (g := gb204) (o := .cells #[.int .i64 a0_0, .slice A0_1 l0_1.length c0_1] 24 (0, 0)) (by (with_reducible repeat (first | refine blk_drewN ?_ _ | refine blk_drew ?_ | refine blk_alloc ?_ _)); exact BK204.out) hb); have n5_ := Aside0.mk (blk_below (g := gb215) (o := .cells #[.int .i64 t210, .slice Ao24 t211.length co24] 28 (0, 0)) (by (with_reducible repeat (first | refine blk_drewN ?_ _ | refine blk_drew ?_ | refine blk_alloc ?_ _)); exact BK215.out) hb); have n6_ := Aside0.mk (blk_below (g := gb220) (o := .cells #[.int .i64 t216, .slice Ao31 t234.length co31] 28 (0, 0)) (by (with_reducible repeat (first | refine blk_drewN ?_ _ | refine blk_drew ?_ | refine blk_alloc ?_ _)); exact BK220.out) hb); have n7_ := Aside0.mk (blk_below (g := gb226) (o := .cells #[.int .i64 t221, .slice Ao38 t237.length co38] 28 (0, 0)) (by (with_reducible repeat (first | refine blk_drewN ?_ _ | refine blk_drew ?_ | refine blk_alloc ?_ _)); exact BK226.out) hb); have n8_ := Aside0.mk (blk_below (g := gb248) (o := .cells #[.int .i64 t243, .slice Ao125 t244.length co125] 28 (0, 0)) (by (with_reducible repeat (first | refine blk_drewN ?_ _ | refine blk_drew ?_ | refine blk_alloc ?_ _)); exact BK248.out) hb); have n9_ := Aside0.mk (below_step (by repeat (first | (with_reducible first | exact HB.out | apply below_alloc | apply pw_below_drewN | apply below_drew1 | refine below_set ?_ GE204.out | refine below_set ?_ GE215.out | refine below_set ?_ GE220.out | refine below_set ?_ GE226.out | refine below_set ?_ GE248.out) | exact HB.out)) hb); clear HO_216001; clear HO_221001; clear HO_227001; clear HO_249001; clear BK204; clear BK215; clear BK220; clear BK226; clear BK248; clear HB; have HO_216001 := n0_; have HO_221001 := n1_; have HO_227001 := n2_; have HO_249001 := n3_; have BK204 := n4_; have BK215 := n5_; have BK220 := n6_; have BK226 := n7_; have BK248 := n8_; have HB := n9_; clear n0_ n1_ n2_ n3_ n4_ n5_ n6_ n7_ n8_ n9_; (try clear hb); (try clear hb2); (try clear hk); (try clear hi)))
                              go_ret
                              exact ⟨by first | rfl | (simp [errW_none, errW_some] <;> rfl) | (simp [*, errW_none, errW_some] <;> rfl), by repeat (first | (with_reducible first | exact HB.out | apply below_alloc | apply pw_below_drewN | apply below_drew1 | refine below_set ?_ GE204.out | refine below_set ?_ GE215.out | refine below_set ?_ GE220.out | refine below_set ?_ GE226.out | refine below_set ?_ GE248.out) | exact HB.out)⟩
                            · rw [if_neg c150] at H
                              have c150b0 : decide (t250 < 0) = false := decide_eq_false c150
                              (try (have c150b0z := c150b0; simp only [hl221001_61, hl227001_104] at c150b0z))
                              clear c150
                              by_cases c157 : t250 = t236
                              · rw [if_pos c157] at H
                                have c157b0 : (t250 == t236) = true := beq_iff_eq.mpr c157
                                have c157b1 : (t250 != t236) = false := bne_eq_false_iff_eq.mpr c157
                                (try (have c157b0z := c157b0; simp only [hl221001_61, hl227001_104] at c157b0z))
                                clear c157
                                obtain rfl := Option.some.inj H
                                have hnb158 := NB226_204.out
                                have hnc158 := NB204_226.out
                                have hnb159 := NB226_215.out
                                have hnc159 := NB215_226.out
                                have hnb160 := NB226_220.out
                                have hnc160 := NB220_226.out
                                have hnb161 := NB226_248.out
                                have hnc161 := NB248_226.out
                                have hcz162_0 : wc.cell? ⟨gb226, 0, none⟩ = some (.int .i64 t221) := (blk_cell BK226.out 0).trans rfl
                                have hcz162_1 : wc.cell? ⟨gb226, 1, none⟩ = some (.slice Ao38 t237.length co38) := (blk_cell BK226.out 1).trans rfl
                                have hfz162_0 := blk_frozen BK226.out 0
                                have hfz162_1 := blk_frozen BK226.out 1
                                go_wp2_with (first | ((with_reducible refine gate_callee (f := 12) rfl ?_); refine goesL_ (some 100) rfl rfl Try.func12 (by kernel_rfl) rfl #[.agg #[.int .i64 t221, .slice Ao38 t237.length co38], .int .i64 1] rfl (by (try simp only [List.map_toArray, List.map_cons, List.map_nil]); first | done | rfl | (simp only [List.length_drop, List.length_take]; rfl)) ?_; (with_reducible refine (laws_heldCircuit.calls kj104 t221 _ _ t237 1 t250 _ ?side1 ?side2 A149.out).mono ?_); (case side1 => repeat (first | exact (Kd.R_reads' HO_227001.out).2.2 | (with_reducible refine Kd.C_alloc ?_ _) | (with_reducible refine Kd.C_drewN ?_ _) | (with_reducible refine Kd.C_drew ?_))); (case side2 => exact (Kd.R_reads' HO_227001.out).2.1); rintro e w163 ⟨rfl, hb⟩; refine ⟨_, rfl, ?_⟩; have n0_ := Aside0.mk (Kd.R_below (by (with_reducible repeat (first | apply Kd.R_alloc | apply Kd.R_drewN | apply Kd.R_drew)); exact HO_216001.out) hb); have n1_ := Aside0.mk (Kd.R_below (by (with_reducible repeat (first | apply Kd.R_alloc | apply Kd.R_drewN | apply Kd.R_drew)); exact HO_221001.out) hb); have n2_ := Aside0.mk (Kd.R_below (by (with_reducible repeat (first | apply Kd.R_alloc | apply Kd.R_drewN | apply Kd.R_drew)); exact HO_227001.out) hb); have n3_ := Aside0.mk (Kd.R_below (by (with_reducible repeat (first | apply Kd.R_alloc | apply Kd.R_drewN | apply Kd.R_drew)); exact HO_249001.out) hb); have n4_ := Aside0.mk (blk_below (g := gb204) (o := .cells #[.int .i64 a0_0, .slice A0_1 l0_1.length c0_1] 24 (0, 0)) (by (with_reducible repeat (first | refine blk_drewN ?_ _ | refine blk_drew ?_ | refine blk_alloc ?_ _)); exact BK204.out) hb); have n5_ := Aside0.mk (blk_below (g := gb215) (o := .cells #[.int .i64 t210, .slice Ao24 t211.length co24] 28 (0, 0)) (by (with_reducible repeat (first | refine blk_drewN ?_ _ | refine blk_drew ?_ | refine blk_alloc ?_ _)); exact BK215.out) hb); have n6_ := Aside0.mk (blk_below (g := gb220) (o := .cells #[.int .i64 t216, .slice Ao31 t234.length co31] 28 (0, 0)) (by (with_reducible repeat (first | refine blk_drewN ?_ _ | refine blk_drew ?_ | refine blk_alloc ?_ _)); exact BK220.out) hb); have n7_ := Aside0.mk (blk_below (g := gb226) (o := .cells #[.int .i64 t221, .slice Ao38 t237.length co38] 28 (0, 0)) (by (with_reducible repeat (first | refine blk_drewN ?_ _ | refine blk_drew ?_ | refine blk_alloc ?_ _)); exact BK226.out) hb); have n8_ := Aside0.mk (blk_below (g := gb248) (o := .cells #[.int .i64 t243, .slice Ao125 t244.length co125] 28 (0, 0)) (by (with_reducible repeat (first | refine blk_drewN ?_ _ | refine blk_drew ?_ | refine blk_alloc ?_ _)); exact BK248.out) hb); have n9_ := Aside0.mk (below_step (by repeat (first | (with_reducible first | exact HB.out | apply below_alloc | apply pw_below_drewN | apply below_drew1 | refine below_set ?_ GE204.out | refine below_set ?_ GE215.out | refine below_set ?_ GE220.out | refine below_set ?_ GE226.out | refine below_set ?_ GE248.out) | exact HB.out)) hb); clear HO_216001; clear HO_221001; clear HO_227001; clear HO_249001; clear BK204; clear BK215; clear BK220; clear BK226; clear BK248; clear HB; have HO_216001 := n0_; have HO_221001 := n1_; have HO_227001 := n2_; have HO_249001 := n3_; have BK204 := n4_; have BK215 := n5_; have BK220 := n6_; have BK226 := n7_; have BK248 := n8_; have HB := n9_; clear n0_ n1_ n2_ n3_ n4_ n5_ n6_ n7_ n8_ n9_; (try clear hb); (try clear hb2); (try clear hk); (try clear hi)))
                                go_ret
                                exact ⟨by first | rfl | (simp [errW_none, errW_some] <;> rfl) | (simp [*, errW_none, errW_some] <;> rfl), by repeat (first | (with_reducible first | exact HB.out | apply below_alloc | apply pw_below_drewN | apply below_drew1 | refine below_set ?_ GE204.out | refine below_set ?_ GE215.out | refine below_set ?_ GE220.out | refine below_set ?_ GE226.out | refine below_set ?_ GE248.out) | exact HB.out)⟩
                              · rw [if_neg c157] at H
                                have c157b0 : (t250 == t236) = false := beq_eq_false_iff_ne.mpr c157
                                have c157b1 : (t250 != t236) = true := bne_iff_ne.mpr c157
                                (try (have c157b0z := c157b0; simp only [hl221001_61, hl227001_104] at c157b0z))
                                obtain rfl := Option.some.inj H
                                have hnb164 := NB226_204.out
                                have hnc164 := NB204_226.out
                                have hnb165 := NB226_215.out
                                have hnc165 := NB215_226.out
                                have hnb166 := NB226_220.out
                                have hnc166 := NB220_226.out
                                have hnb167 := NB226_248.out
                                have hnc167 := NB248_226.out
                                have hcz168_0 : wc.cell? ⟨gb226, 0, none⟩ = some (.int .i64 t221) := (blk_cell BK226.out 0).trans rfl
                                have hcz168_1 : wc.cell? ⟨gb226, 1, none⟩ = some (.slice Ao38 t237.length co38) := (blk_cell BK226.out 1).trans rfl
                                have hfz168_0 := blk_frozen BK226.out 0
                                have hfz168_1 := blk_frozen BK226.out 1
                                go_wp2_with (first | ((with_reducible refine gate_callee (f := 12) rfl ?_); refine goesL_ (some 100) rfl rfl Try.func12 (by kernel_rfl) rfl #[.agg #[.int .i64 t221, .slice Ao38 t237.length co38], .int .i64 1] rfl (by (try simp only [List.map_toArray, List.map_cons, List.map_nil]); first | done | rfl | (simp only [List.length_drop, List.length_take]; rfl)) ?_; (with_reducible refine (laws_heldCircuit.calls kj104 t221 _ _ t237 1 t250 _ ?side1 ?side2 A149.out).mono ?_); (case side1 => repeat (first | exact (Kd.R_reads' HO_227001.out).2.2 | (with_reducible refine Kd.C_alloc ?_ _) | (with_reducible refine Kd.C_drewN ?_ _) | (with_reducible refine Kd.C_drew ?_))); (case side2 => exact (Kd.R_reads' HO_227001.out).2.1); rintro e w169 ⟨rfl, hb⟩; refine ⟨_, rfl, ?_⟩; have n0_ := Aside0.mk (Kd.R_below (by (with_reducible repeat (first | apply Kd.R_alloc | apply Kd.R_drewN | apply Kd.R_drew)); exact HO_216001.out) hb); have n1_ := Aside0.mk (Kd.R_below (by (with_reducible repeat (first | apply Kd.R_alloc | apply Kd.R_drewN | apply Kd.R_drew)); exact HO_221001.out) hb); have n2_ := Aside0.mk (Kd.R_below (by (with_reducible repeat (first | apply Kd.R_alloc | apply Kd.R_drewN | apply Kd.R_drew)); exact HO_227001.out) hb); have n3_ := Aside0.mk (Kd.R_below (by (with_reducible repeat (first | apply Kd.R_alloc | apply Kd.R_drewN | apply Kd.R_drew)); exact HO_249001.out) hb); have n4_ := Aside0.mk (blk_below (g := gb204) (o := .cells #[.int .i64 a0_0, .slice A0_1 l0_1.length c0_1] 24 (0, 0)) (by (with_reducible repeat (first | refine blk_drewN ?_ _ | refine blk_drew ?_ | refine blk_alloc ?_ _)); exact BK204.out) hb); have n5_ := Aside0.mk (blk_below (g := gb215) (o := .cells #[.int .i64 t210, .slice Ao24 t211.length co24] 28 (0, 0)) (by (with_reducible repeat (first | refine blk_drewN ?_ _ | refine blk_drew ?_ | refine blk_alloc ?_ _)); exact BK215.out) hb); have n6_ := Aside0.mk (blk_below (g := gb220) (o := .cells #[.int .i64 t216, .slice Ao31 t234.length co31] 28 (0, 0)) (by (with_reducible repeat (first | refine blk_drewN ?_ _ | refine blk_drew ?_ | refine blk_alloc ?_ _)); exact BK220.out) hb); have n7_ := Aside0.mk (blk_below (g := gb226) (o := .cells #[.int .i64 t221, .slice Ao38 t237.length co38] 28 (0, 0)) (by (with_reducible repeat (first | refine blk_drewN ?_ _ | refine blk_drew ?_ | refine blk_alloc ?_ _)); exact BK226.out) hb); have n8_ := Aside0.mk (blk_below (g := gb248) (o := .cells #[.int .i64 t243, .slice Ao125 t244.length co125] 28 (0, 0)) (by (with_reducible repeat (first | refine blk_drewN ?_ _ | refine blk_drew ?_ | refine blk_alloc ?_ _)); exact BK248.out) hb); have n9_ := Aside0.mk (below_step (by repeat (first | (with_reducible first | exact HB.out | apply below_alloc | apply pw_below_drewN | apply below_drew1 | refine below_set ?_ GE204.out | refine below_set ?_ GE215.out | refine below_set ?_ GE220.out | refine below_set ?_ GE226.out | refine below_set ?_ GE248.out) | exact HB.out)) hb); clear HO_216001; clear HO_221001; clear HO_227001; clear HO_249001; clear BK204; clear BK215; clear BK220; clear BK226; clear BK248; clear HB; have HO_216001 := n0_; have HO_221001 := n1_; have HO_227001 := n2_; have HO_249001 := n3_; have BK204 := n4_; have BK215 := n5_; have BK220 := n6_; have BK226 := n7_; have BK248 := n8_; have HB := n9_; clear n0_ n1_ n2_ n3_ n4_ n5_ n6_ n7_ n8_ n9_; (try clear hb); (try clear hb2); (try clear hk); (try clear hi)))
                                go_ret
                                exact ⟨by first | rfl | (simp [errW_none, errW_some] <;> rfl) | (simp [*, errW_none, errW_some] <;> rfl), by repeat (first | (with_reducible first | exact HB.out | apply below_alloc | apply pw_below_drewN | apply below_drew1 | refine below_set ?_ GE204.out | refine below_set ?_ GE215.out | refine below_set ?_ GE220.out | refine below_set ?_ GE226.out | refine below_set ?_ GE248.out) | exact HB.out)⟩
                    · rw [if_neg c102] at H
                      have c102b0 : (t238 == t236) = false := beq_eq_false_iff_ne.mpr c102
                      have c102b1 : (t238 != t236) = true := bne_iff_ne.mpr c102
                      (try (have c102b0z := c102b0; simp only [hl221001_61] at c102b0z))
                      obtain rfl := Option.some.inj H
                      have hnb170 := NB226_204.out
                      have hnc170 := NB204_226.out
                      have hnb171 := NB226_215.out
                      have hnc171 := NB215_226.out
                      have hnb172 := NB226_220.out
                      have hnc172 := NB220_226.out
                      have hcz173_0 : wc.cell? ⟨gb226, 0, none⟩ = some (.int .i64 t221) := (blk_cell BK226.out 0).trans rfl
                      have hcz173_1 : wc.cell? ⟨gb226, 1, none⟩ = some (.slice Ao38 t222.length co38) := (blk_cell BK226.out 1).trans rfl
                      have hfz173_0 := blk_frozen BK226.out 0
                      have hfz173_1 := blk_frozen BK226.out 1
                      go_wp2_with (first | ((with_reducible refine gate_callee (f := 11) rfl ?_); refine goesL_ (some 72) rfl rfl Try.func11 (by kernel_rfl) rfl #[.agg #[.int .i64 t221, .slice Ao38 t222.length co38], .int .i64 1] rfl (by (try simp only [List.map_toArray, List.map_cons, List.map_nil]); first | done | rfl | (simp only [List.length_drop, List.length_take]; rfl)) ?_; (with_reducible refine (laws_markCircuit.calls kj61 t221 (fun k_ => some k_ = (.slice Ao38 t222.length co38 : Value).ownBlock) (.slice Ao38 t222.length co38) t222 1 t236 t237 w _ ?side1 ?side2 A92.out).mono ?_); (case side1 => repeat (first | (with_reducible first | exact HB.out | apply below_alloc | apply pw_below_drewN | apply below_drew1 | refine below_set ?_ GE204.out | refine below_set ?_ GE215.out | refine below_set ?_ GE220.out | refine below_set ?_ GE226.out) | exact HB.out)); (case side2 => exact Kd.R_tight rfl HO_227001.out); rintro e w174 ⟨rfl, hy0, hb, hkp⟩; refine ⟨_, rfl, ?_⟩; have n0_ := Aside0.mk (Kd.R_mono (ok' := fun k_ => some k_ ≠ (.slice Ao31 t234.length co31 : Value).ownBlock ∧ some k_ ≠ (.slice Ao38 t222.length co38 : Value).ownBlock) (Kd.R_keptB (HO_216001.out) hkp (fun k_ hk_ hs_ => (hk_.2) hs_)) (fun k_ hk_ => ⟨hk_.1.1, hk_.1.2⟩)); have n1_ := Aside0.mk (Kd.R_mono (ok' := fun k_ => some k_ ≠ (.slice Ao24 t211.length co24 : Value).ownBlock ∧ some k_ ≠ (.slice Ao38 t222.length co38 : Value).ownBlock) (Kd.R_keptB (HO_221001.out) hkp (fun k_ hk_ hs_ => (hk_.2) hs_)) (fun k_ hk_ => ⟨hk_.1.1, hk_.1.2⟩)); have n2_ := Aside0.mk (Kd.R_reok rfl hy0 (fun k_ e_ => HO_227001.out.1 k_ e_)); have n3_ := Aside0.mk (blk_kept (by (with_reducible repeat (first | refine blk_drewN ?_ _ | refine blk_drew ?_ | refine blk_alloc ?_ _)); exact BK204.out) hkp (fun hs_ => (fun e_ => (Kd.R_ne HO_227001.out BK204.out (by decide)) e_) hs_)); have n4_ := Aside0.mk (blk_kept (by (with_reducible repeat (first | refine blk_drewN ?_ _ | refine blk_drew ?_ | refine blk_alloc ?_ _)); exact BK215.out) hkp (fun hs_ => (fun e_ => (Kd.R_ne HO_227001.out BK215.out (by decide)) e_) hs_)); have n5_ := Aside0.mk (blk_kept (by (with_reducible repeat (first | refine blk_drewN ?_ _ | refine blk_drew ?_ | refine blk_alloc ?_ _)); exact BK220.out) hkp (fun hs_ => (fun e_ => (Kd.R_ne HO_227001.out BK220.out (by decide)) e_) hs_)); have n6_ := Aside0.mk (blk_kept (by (with_reducible repeat (first | refine blk_drewN ?_ _ | refine blk_drew ?_ | refine blk_alloc ?_ _)); exact BK226.out) hkp (fun hs_ => (fun e_ => (Kd.R_ne HO_227001.out BK226.out (by decide)) e_) hs_)); have n7_ := Aside0.mk (hb); clear HO_216001; clear HO_221001; clear HO_227001; clear BK204; clear BK215; clear BK220; clear BK226; clear HB; have HO_216001 := n0_; have HO_221001 := n1_; have HO_227001 := n2_; have BK204 := n3_; have BK215 := n4_; have BK220 := n5_; have BK226 := n6_; have HB := n7_; clear n0_ n1_ n2_ n3_ n4_ n5_ n6_ n7_; (try clear hb); (try clear hkp); (try clear hy0); have hcz175_0 : w174.cell? ⟨gb226, 0, none⟩ = some (.int .i64 t221) := (blk_cell BK226.out 0).trans rfl; have hcz175_1 : w174.cell? ⟨gb226, 1, none⟩ = some (.slice Ao38 t222.length co38) := (blk_cell BK226.out 1).trans rfl; have hfz175_0 := blk_frozen BK226.out 0; have hfz175_1 := blk_frozen BK226.out 1) | ((with_reducible refine gate_callee (f := 12) rfl ?_); refine goesL_ (some 75) rfl rfl Try.func12 (by kernel_rfl) rfl #[.agg #[.int .i64 t221, .slice Ao38 t237.length co38], .int .i64 1] rfl (by (try simp only [List.map_toArray, List.map_cons, List.map_nil]); first | done | (rw [show t237.length = t222.length from (Kd.R_reads' HO_227001.out).1.symm] <;> rfl) | rfl | (simp only [List.length_drop, List.length_take]; rfl)) ?_; (with_reducible refine (laws_heldCircuit.calls kj61 t221 _ _ t237 1 t238 _ ?side1 ?side2 A93.out).mono ?_); (case side1 => repeat (first | exact (Kd.R_reads' HO_227001.out).2.2 | (with_reducible refine Kd.C_alloc ?_ _) | (with_reducible refine Kd.C_drewN ?_ _) | (with_reducible refine Kd.C_drew ?_))); (case side2 => rw [show t237.length = t222.length from (Kd.R_reads' HO_227001.out).1.symm]; exact (Kd.R_reads' HO_227001.out).2.1); rintro e w176 ⟨rfl, hb⟩; refine ⟨_, rfl, ?_⟩; have n0_ := Aside0.mk (Kd.R_below (by (with_reducible repeat (first | apply Kd.R_alloc | apply Kd.R_drewN | apply Kd.R_drew)); exact HO_216001.out) hb); have n1_ := Aside0.mk (Kd.R_below (by (with_reducible repeat (first | apply Kd.R_alloc | apply Kd.R_drewN | apply Kd.R_drew)); exact HO_221001.out) hb); have n2_ := Aside0.mk (Kd.R_below (by (with_reducible repeat (first | apply Kd.R_alloc | apply Kd.R_drewN | apply Kd.R_drew)); exact HO_227001.out) hb); have n3_ := Aside0.mk (blk_below (g := gb204) (o := .cells #[.int .i64 a0_0, .slice A0_1 l0_1.length c0_1] 24 (0, 0)) (by (with_reducible repeat (first | refine blk_drewN ?_ _ | refine blk_drew ?_ | refine blk_alloc ?_ _)); exact BK204.out) hb); have n4_ := Aside0.mk (blk_below (g := gb215) (o := .cells #[.int .i64 t210, .slice Ao24 t211.length co24] 28 (0, 0)) (by (with_reducible repeat (first | refine blk_drewN ?_ _ | refine blk_drew ?_ | refine blk_alloc ?_ _)); exact BK215.out) hb); have n5_ := Aside0.mk (blk_below (g := gb220) (o := .cells #[.int .i64 t216, .slice Ao31 t234.length co31] 28 (0, 0)) (by (with_reducible repeat (first | refine blk_drewN ?_ _ | refine blk_drew ?_ | refine blk_alloc ?_ _)); exact BK220.out) hb); have n6_ := Aside0.mk (blk_below (g := gb226) (o := .cells #[.int .i64 t221, .slice Ao38 t222.length co38] 28 (0, 0)) (by (with_reducible repeat (first | refine blk_drewN ?_ _ | refine blk_drew ?_ | refine blk_alloc ?_ _)); exact BK226.out) hb); have n7_ := Aside0.mk (below_step (by repeat (first | (with_reducible first | exact HB.out | apply below_alloc | apply pw_below_drewN | apply below_drew1 | refine below_set ?_ GE204.out | refine below_set ?_ GE215.out | refine below_set ?_ GE220.out | refine below_set ?_ GE226.out) | exact HB.out)) hb); clear HO_216001; clear HO_221001; clear HO_227001; clear BK204; clear BK215; clear BK220; clear BK226; clear HB; have HO_216001 := n0_; have HO_221001 := n1_; have HO_227001 := n2_; have BK204 := n3_; have BK215 := n4_; have BK220 := n5_; have BK226 := n6_; have HB := n7_; clear n0_ n1_ n2_ n3_ n4_ n5_ n6_ n7_; (try clear hb); (try clear hb2); (try clear hk); (try clear hi)))
                      go_ret
                      exact ⟨by first | rfl | (simp [errW_none, errW_some] <;> rfl) | (simp [*, errW_none, errW_some] <;> rfl), by repeat (first | (with_reducible first | exact HB.out | apply below_alloc | apply pw_below_drewN | apply below_drew1 | refine below_set ?_ GE204.out | refine below_set ?_ GE215.out | refine below_set ?_ GE220.out | refine below_set ?_ GE226.out) | exact HB.out)⟩
          · replace c60 := Bool.eq_false_iff.mpr c60
            subst c60
            have H1 : (some false) = some r := by rw [if_neg (show ¬ (false = true) by decide)] at H; exact H
            clear H
            have H := H1
            clear H1
            obtain rfl := Option.some.inj H
            try go_wp2
            have n0_ := Aside0.mk (Kd.R_drew HO_216001.out)
            have n1_ := Aside0.mk (Kd.R_drew HO_221001.out)
            have n2_ := Aside0.mk (Kd.R_drew HO_227001.out)
            have n3_ := Aside0.mk (blk_drew BK204.out)
            have n4_ := Aside0.mk (blk_drew BK215.out)
            have n5_ := Aside0.mk (blk_drew BK220.out)
            have n6_ := Aside0.mk (blk_drew BK226.out)
            have n7_ := Aside0.mk (below_drew1 HB.out)
            clear HO_216001
            clear HO_221001
            clear HO_227001
            clear BK204
            clear BK215
            clear BK220
            clear BK226
            clear HB
            have HO_216001 := n0_
            have HO_221001 := n1_
            have HO_227001 := n2_
            have BK204 := n3_
            have BK215 := n4_
            have BK220 := n5_
            have BK226 := n6_
            have HB := n7_
            clear n0_ n1_ n2_ n3_ n4_ n5_ n6_ n7_
            refine start_ (n := 5) (S := fun w' => w'.cell? ⟨gb220, 0, none⟩ = some (.int .i64 t216) ∧ w'.cell? ⟨gb220, 1, none⟩ = some (.slice Ao31 t217.length co31) ∧ w'.cell? ⟨gb204, 0, none⟩ = some (.int .i64 a0_0) ∧ w'.cell? ⟨gb204, 1, none⟩ = some (.slice A0_1 l0_1.length c0_1)) (ds := []) #[false, false, false, false, false] (by kernel_rfl) rfl rfl ⟨(blk_cell BK220.out 0).trans rfl, (blk_cell BK220.out 1).trans rfl, (blk_cell BK204.out 0).trans rfl, (blk_cell BK204.out 1).trans rfl⟩ (fun hHeld => ?_)
            generalize wc.drew = w177 at HO_216001 HO_221001 HO_227001 BK204 BK215 BK220 BK226 HB hHeld ⊢
            refine take_ (i := 0) (N := some 49) (v := ?_) (a' := ?_) #[true, false, false, false, false] rfl rfl (by kernel_rfl) (fun _ _ _ h => h) (Or.inl ⟨by rfl, ?_⟩) hHeld ?_ ?_
            rotate_left
            · rintro w' ⟨s0, s1, s2, s3⟩
              go_simp
              with_reducible rfl
            rotate_left
            · simp only [Act.put, List.setIfInBounds_toArray, List.set_cons_zero, List.set_cons_succ, i64_w, i32_w]
              rfl
            refine take_ (i := 1) (N := some 50) (v := ?_) (a' := ?_) #[true, true, false, false, false] rfl rfl (by kernel_rfl) (fun _ _ _ h => h) (Or.inl ⟨by rfl, ?_⟩) hHeld ?_ ?_
            rotate_left
            · rintro w' ⟨s0, s1, s2, s3⟩
              go_simp
              with_reducible rfl
            rotate_left
            · simp only [Act.put, List.setIfInBounds_toArray, List.set_cons_zero, List.set_cons_succ, i64_w, i32_w]
              rfl
            refine one_ (i := 2) (N := some 51) #[true, true, true, false, false] rfl rfl (by kernel_rfl) (by decide) (fun K hK => ?_)
            refine goes_ Try.func8 (by kernel_rfl) rfl #[.agg #[.int .i64 a0_0, .slice A0_1 l0_1.length c0_1]] (by rfl) rfl rfl (by (try simp only [List.map_toArray, List.map_cons, List.map_nil]); first | done | rfl | (simp only [List.length_drop, List.length_take]; rfl)) ?_
            with_reducible refine (laws_toCircuit.calls kj12 a0_0 _ _ l0_1 t228 t229 _ ?side1 ?side2 A58.out).mono ?_
            (case side1 => repeat (first | exact (Kd.C_below HR0_1.out HB.out) | (with_reducible refine Kd.C_alloc ?_ _) | (with_reducible refine Kd.C_drewN ?_ _) | (with_reducible refine Kd.C_drew ?_)))
            (case side2 => exact HC0_1.out)
            rintro e w178 ⟨v230, rfl, ho0, hb⟩
            refine ⟨_, rfl, ?_⟩
            have n0_ := Aside0.mk (Kd.R_elder' (by (with_reducible repeat (first | apply Kd.R_alloc | apply Kd.R_drewN | apply Kd.R_drew)); exact HO_216001.out) (Kd.R_base ho0) hb)
            have n1_ := Aside0.mk (Kd.R_elder' (by (with_reducible repeat (first | apply Kd.R_alloc | apply Kd.R_drewN | apply Kd.R_drew)); exact HO_221001.out) (Kd.R_base ho0) hb)
            have n2_ := Aside0.mk (Kd.R_elder' (by (with_reducible repeat (first | apply Kd.R_alloc | apply Kd.R_drewN | apply Kd.R_drew)); exact HO_227001.out) (Kd.R_base ho0) hb)
            have n3_ := Aside0.mk (Kd.R_lower (Kd.R_new' (Kd.R_new' (Kd.R_new' ho0 (Kd.R_lt (by (with_reducible repeat (first | apply Kd.R_alloc | apply Kd.R_drewN | apply Kd.R_drew)); exact HO_216001.out))) (Kd.R_lt (by (with_reducible repeat (first | apply Kd.R_alloc | apply Kd.R_drewN | apply Kd.R_drew)); exact HO_221001.out))) (Kd.R_lt (by (with_reducible repeat (first | apply Kd.R_alloc | apply Kd.R_drewN | apply Kd.R_drew)); exact HO_227001.out))) (below_size (by repeat (first | (with_reducible first | exact HB.out | apply below_alloc | apply pw_below_drewN | apply below_drew1 | refine below_set ?_ GE204.out | refine below_set ?_ GE215.out | refine below_set ?_ GE220.out | refine below_set ?_ GE226.out) | exact HB.out))))
            have n4_ := Aside0.mk (blk_below (g := gb204) (o := .cells #[.int .i64 a0_0, .slice A0_1 l0_1.length c0_1] 24 (0, 0)) (by (with_reducible repeat (first | refine blk_drewN ?_ _ | refine blk_drew ?_ | refine blk_alloc ?_ _)); exact BK204.out) hb)
            have n5_ := Aside0.mk (blk_below (g := gb215) (o := .cells #[.int .i64 t210, .slice Ao24 t211.length co24] 28 (0, 0)) (by (with_reducible repeat (first | refine blk_drewN ?_ _ | refine blk_drew ?_ | refine blk_alloc ?_ _)); exact BK215.out) hb)
            have n6_ := Aside0.mk (blk_below (g := gb220) (o := .cells #[.int .i64 t216, .slice Ao31 t217.length co31] 28 (0, 0)) (by (with_reducible repeat (first | refine blk_drewN ?_ _ | refine blk_drew ?_ | refine blk_alloc ?_ _)); exact BK220.out) hb)
            have n7_ := Aside0.mk (blk_below (g := gb226) (o := .cells #[.int .i64 t221, .slice Ao38 t222.length co38] 28 (0, 0)) (by (with_reducible repeat (first | refine blk_drewN ?_ _ | refine blk_drew ?_ | refine blk_alloc ?_ _)); exact BK226.out) hb)
            have n8_ := Aside0.mk (below_step (by repeat (first | (with_reducible first | exact HB.out | apply below_alloc | apply pw_below_drewN | apply below_drew1 | refine below_set ?_ GE204.out | refine below_set ?_ GE215.out | refine below_set ?_ GE220.out | refine below_set ?_ GE226.out) | exact HB.out)) hb)
            clear HO_216001
            clear HO_221001
            clear HO_227001
            clear BK204
            clear BK215
            clear BK220
            clear BK226
            clear HB
            have HO_216001 := n0_
            have HO_221001 := n1_
            have HO_227001 := n2_
            have HO231 := n3_
            have BK204 := n4_
            have BK215 := n5_
            have BK220 := n6_
            have BK226 := n7_
            have HB := n8_
            clear n0_ n1_ n2_ n3_ n4_ n5_ n6_ n7_ n8_
            (try clear hb)
            (try clear hb2)
            (try clear hk)
            (try clear hi)
            (try clear ho0)
            obtain ⟨Ao179, co179, eo179⟩ := Kd.R_slice HO231.out
            (first | subst eo179 | (injection eo179 with f1_ f2_ f3_; have f4_ := f1_.symm; have f5_ := f3_.symm; clear f1_ f2_ f3_; subst f4_; subst f5_))
            refine hK.out _ _ ⟨(blk_cell BK220.out 0).trans rfl, (blk_cell BK220.out 1).trans rfl, (blk_cell BK204.out 0).trans rfl, (blk_cell BK204.out 1).trans rfl⟩ (fun hHeld => ?_)
            clear hK K
            refine norm_ (a' := ?_) ?_ ?_
            rotate_left
            · show Act.put _ (some 51) _ = _
              simp only [Act.put, List.setIfInBounds_toArray, List.set_cons_zero, List.set_cons_succ, i64_w, i32_w]
              rfl
            refine one_ (i := 3) (N := some 52) #[true, true, true, true, false] rfl rfl (by kernel_rfl) (by decide) (fun K hK => ?_)
            refine goes_ Try.func10 (by kernel_rfl) rfl #[.agg #[.int .i64 t216, .slice Ao31 t217.length co31], .agg #[.int .i64 t228, .slice Ao179 t229.length co179]] (by rfl) rfl rfl (by (try simp only [List.map_toArray, List.map_cons, List.map_nil]); first | done | rfl | (simp only [List.length_drop, List.length_take]; rfl)) ?_
            with_reducible refine (laws_eqCircuit.calls kj12 t216 _ _ t217 t228 _ _ t229 false _ ?side1 ?side2 ?side3 ?side4 A59.out).mono ?_
            (case side1 => repeat (first | exact (Kd.R_reads' HO_221001.out).2.2 | (with_reducible refine Kd.C_alloc ?_ _) | (with_reducible refine Kd.C_drewN ?_ _) | (with_reducible refine Kd.C_drew ?_)))
            (case side2 => exact (Kd.R_reads' HO_221001.out).2.1)
            (case side3 => repeat (first | exact (Kd.R_reads' HO231.out).2.2 | (with_reducible refine Kd.C_alloc ?_ _) | (with_reducible refine Kd.C_drewN ?_ _) | (with_reducible refine Kd.C_drew ?_)))
            (case side4 => exact (Kd.R_reads' HO231.out).2.1)
            rintro e w180 ⟨rfl, hb⟩
            refine ⟨_, rfl, ?_⟩
            have n0_ := Aside0.mk (Kd.R_below (by (with_reducible repeat (first | apply Kd.R_alloc | apply Kd.R_drewN | apply Kd.R_drew)); exact HO_216001.out) hb)
            have n1_ := Aside0.mk (Kd.R_below (by (with_reducible repeat (first | apply Kd.R_alloc | apply Kd.R_drewN | apply Kd.R_drew)); exact HO_221001.out) hb)
            have n2_ := Aside0.mk (Kd.R_below (by (with_reducible repeat (first | apply Kd.R_alloc | apply Kd.R_drewN | apply Kd.R_drew)); exact HO_227001.out) hb)
            have n3_ := Aside0.mk (Kd.R_below (by (with_reducible repeat (first | apply Kd.R_alloc | apply Kd.R_drewN | apply Kd.R_drew)); exact HO231.out) hb)
            have n4_ := Aside0.mk (blk_below (g := gb204) (o := .cells #[.int .i64 a0_0, .slice A0_1 l0_1.length c0_1] 24 (0, 0)) (by (with_reducible repeat (first | refine blk_drewN ?_ _ | refine blk_drew ?_ | refine blk_alloc ?_ _)); exact BK204.out) hb)
            have n5_ := Aside0.mk (blk_below (g := gb215) (o := .cells #[.int .i64 t210, .slice Ao24 t211.length co24] 28 (0, 0)) (by (with_reducible repeat (first | refine blk_drewN ?_ _ | refine blk_drew ?_ | refine blk_alloc ?_ _)); exact BK215.out) hb)
            have n6_ := Aside0.mk (blk_below (g := gb220) (o := .cells #[.int .i64 t216, .slice Ao31 t217.length co31] 28 (0, 0)) (by (with_reducible repeat (first | refine blk_drewN ?_ _ | refine blk_drew ?_ | refine blk_alloc ?_ _)); exact BK220.out) hb)
            have n7_ := Aside0.mk (blk_below (g := gb226) (o := .cells #[.int .i64 t221, .slice Ao38 t222.length co38] 28 (0, 0)) (by (with_reducible repeat (first | refine blk_drewN ?_ _ | refine blk_drew ?_ | refine blk_alloc ?_ _)); exact BK226.out) hb)
            have n8_ := Aside0.mk (below_step (by repeat (first | (with_reducible first | exact HB.out | apply below_alloc | apply pw_below_drewN | apply below_drew1 | refine below_set ?_ GE204.out | refine below_set ?_ GE215.out | refine below_set ?_ GE220.out | refine below_set ?_ GE226.out) | exact HB.out)) hb)
            clear HO_216001
            clear HO_221001
            clear HO_227001
            clear HO231
            clear BK204
            clear BK215
            clear BK220
            clear BK226
            clear HB
            have HO_216001 := n0_
            have HO_221001 := n1_
            have HO_227001 := n2_
            have HO231 := n3_
            have BK204 := n4_
            have BK215 := n5_
            have BK220 := n6_
            have BK226 := n7_
            have HB := n8_
            clear n0_ n1_ n2_ n3_ n4_ n5_ n6_ n7_ n8_
            (try clear hb)
            (try clear hb2)
            (try clear hk)
            (try clear hi)
            refine hK.out _ _ ⟨(blk_cell BK220.out 0).trans rfl, (blk_cell BK220.out 1).trans rfl, (blk_cell BK204.out 0).trans rfl, (blk_cell BK204.out 1).trans rfl⟩ (fun hHeld => ?_)
            clear hK K
            refine norm_ (a' := ?_) ?_ ?_
            rotate_left
            · show Act.put _ (some 52) _ = _
              simp only [Act.put, List.setIfInBounds_toArray, List.set_cons_zero, List.set_cons_succ, i64_w, i32_w]
              rfl
            refine pure_ (i := 4) (N := some 53) (v := ?_) (a' := ?_) #[true, true, true, true, true] rfl rfl (by kernel_rfl) (fun _ _ _ h => h) (Or.inl ⟨by rfl, ?_⟩) ?_ ?_
            rotate_left
            · intro w'
              go_simp
              with_reducible rfl
            rotate_left
            · simp only [Act.put, List.setIfInBounds_toArray, List.set_cons_zero, List.set_cons_succ, i64_w, i32_w]
              rfl
            refine done_ (by kernel_rfl) ?_
            try go_wp2
            go_ret
            exact ⟨by first | rfl | (simp [errW_none, errW_some] <;> rfl) | (simp [*, errW_none, errW_some] <;> rfl), by repeat (first | (with_reducible first | exact HB.out | apply below_alloc | apply pw_below_drewN | apply below_drew1 | refine below_set ?_ GE204.out | refine below_set ?_ GE215.out | refine below_set ?_ GE220.out | refine below_set ?_ GE226.out) | exact HB.out)⟩
def laws_FnExactAddOr.Pure : Prop := ∀ (a0_0 : Int) (l0_1 : List (S63)) (a1 : Int) (a2 : Int), (Lit.int .i64 a0_0).wf = true → l0_1.length ≤ 9223372036854775807 → (∀ x ∈ l0_1, ((Lit.int .i64 x.f0).wf = true ∧ (Lit.int .i64 x.f1).wf = true)) → (Lit.int .i64 a1).wf = true → (Lit.int .i64 a2).wf = true → ∃ k, laws_FnExactAddOr.f k a0_0 l0_1 a1 a2 = some true

end Go.Proofs.Ythphgkhmeobadaa.XFnExactAddOr
