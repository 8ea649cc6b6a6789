/- Printed by a program of this session out of the translation: the Go functions that a law uses as plain Lean functions, with the proofs of their calls, or the law's row.
Conditions: those that each theorem states. -/
import Derived.Test.YtbjkjoicecmmpacXFnCubeMeetx0
import Derived.Test.YtbjkjoicecmmpacXFnCubeMeetx1
import Derived.Test.YtbjkjoicecmmpacXFnCubeMeetx2
import Derived.Test.YtbjkjoicecmmpacXFnCubeMeetx3
import Derived.Test.YtbjkjoicecmmpacXFnCubeMeetx4
import Derived.Test.YtbjkjoicecmmpacXFnCubeMeetx5
import Derived.Test.YtbjkjoicecmmpacXFnCubeMeetx6
namespace Go.Proofs.Ytbjkjoicecmmpac.XFnCubeMeet
open Go.RowKit Go.Proofs.YtbjkjoicecmmpacW.PrintWords Go.Proofs.YtbjkjoicecmmpacW.PrintLast Go.Proofs.YtbjkjoicecmmpacW.PrintMore
attribute [local go_sem] max2_int min2_int max_two min_two max_three min_three max_four min_four   -- for this text's walks alone
set_option linter.unusedVariables false
set_option linter.unusedSimpArgs false

/-! ### laws_FnCubeMeet: function 8 -/
mutual
def laws_FnCubeMeet.j0 : Nat → List Int → List Int → List Int → Bool → List Int → Bool → Option (Bool)
  | 0, _, _, _, _, _, _ => none
  | k + 1, x3, x4, x5, x6, x9, x61 => if x61 = true then (some false) else ((impl_CubeSize.f k x3).bind fun t274 => (if t274 < 0 then (laws_FnCubeMeet.j1 k x3 x4 x5 x6 x9 true) else ((impl_CubeValid.f k x4 (x3.length : Int)).bind fun t275 => (laws_FnCubeMeet.j1 k x3 x4 x5 x6 x9 (!t275)))))
def laws_FnCubeMeet.j1 : Nat → List Int → List Int → List Int → Bool → List Int → Bool → Option (Bool)
  | 0, _, _, _, _, _, _ => none
  | k + 1, x3, x4, x5, x6, x9, x71 => if x71 = true then (if x6 = true then (some false) else (some ((x9.length : Int) == 0))) else (laws_FnCubeMeet.l0 k x3 x4 x5 x6 x9 (shl .i64 1 (x3.length : Int)) 0)
def laws_FnCubeMeet.l0 : Nat → List Int → List Int → List Int → Bool → List Int → Int → Int → Option (Bool)
  | 0, _, _, _, _, _, _, _ => none
  | k + 1, x3, x4, x5, x6, x9, x81, x82 => if x82 < x81 then (laws_FnCubeMeet.l1 k x3 x4 x5 x6 x9 x82 (([] : List Int)) x81 x82 (x3.length : Int) 0) else ((impl_CubeInside.f k x3 x9).bind fun t276 => (if t276 = true then ((impl_CubeInside.f k x4 x9).bind fun t277 => (if t277 = true then (if x6 = true then ((impl_CubeInside.f k x5 x3).bind fun t278 => (some t278)) else (some true)) else (some false))) else (some false)))
def laws_FnCubeMeet.l1 : Nat → List Int → List Int → List Int → Bool → List Int → Int → List Int → Int → Int → Int → Int → Option (Bool)
  | 0, _, _, _, _, _, _, _, _, _, _, _ => none
  | k + 1, x3, x4, x5, x6, x9, x10, x11, x81, x82, x87, x88 => if x88 < x87 then (if 0 ≤ x88 then (if x11.length < 17592186044416 then (laws_FnCubeMeet.l1 k x3 x4 x5 x6 x9 x10 (x11 ++ [Int.tmod (shr .i64 x10 x88) 2]) x81 x82 x87 (wrap64 (x88 + 1))) else (none)) else (none)) else ((impl_CubeHas.f k x3 x11).bind fun t285 => ((impl_CubeHas.f k x4 x11).bind fun t286 => (if x6 = true then ((impl_CubeHas.f k x5 x11).bind fun t287 => (if t285 = true then (if (t287 != t286) = true then (some false) else ((impl_CubeHas.f k x9 x11).bind fun t288 => (if t288 = true then (laws_FnCubeMeet.l0 k x3 x4 x5 x6 x9 x81 (wrap64 (x82 + 1))) else (some false)))) else (if (t287 != false) = true then (some false) else (if t286 = true then ((impl_CubeHas.f k x9 x11).bind fun t289 => (if t289 = true then (laws_FnCubeMeet.l0 k x3 x4 x5 x6 x9 x81 (wrap64 (x82 + 1))) else (some false))) else (laws_FnCubeMeet.l0 k x3 x4 x5 x6 x9 x81 (wrap64 (x82 + 1))))))) else (if t285 = true then (if (false != t286) = true then (some false) else ((impl_CubeHas.f k x9 x11).bind fun t290 => (if t290 = true then (laws_FnCubeMeet.l0 k x3 x4 x5 x6 x9 x81 (wrap64 (x82 + 1))) else (some false)))) else (if (false != false) = true then (some false) else (if t286 = true then ((impl_CubeHas.f k x9 x11).bind fun t291 => (if t291 = true then (laws_FnCubeMeet.l0 k x3 x4 x5 x6 x9 x81 (wrap64 (x82 + 1))) else (some false))) else (laws_FnCubeMeet.l0 k x3 x4 x5 x6 x9 x81 (wrap64 (x82 + 1)))))))))
end
def laws_FnCubeMeet.f (k : Nat) (l0 : List Int) : Option (Bool) := if (l0.length : Int) > 1048576 then (some true) else ((spec_DrawCubeMeet.f k l0).bind fun bt250 => ((impl_CubeMeet.f k bt250.1 bt250.2).bind fun bt256 => ((spec_CubeMeet.f k bt250.1 bt250.2).bind fun bt260 => ((impl_CubeJoin.f k bt250.1 bt250.2).bind fun t264 => (if (bt256.2 != bt260.2) = true then (laws_FnCubeMeet.j0 k bt250.1 bt250.2 bt256.1 bt256.2 t264 true) else ((laws_wcInts.f k bt256.1 bt260.1).bind fun t267 => (if t267 = true then ((spec_CubeJoin.f k bt250.1 bt250.2).bind fun t268 => ((laws_wcInts.f k t264 t268).bind fun t271 => (if t271 = true then ((impl_CubeSize.f k bt250.1).bind fun t272 => ((spec_CubeSize.f k bt250.1).bind fun t273 => (laws_FnCubeMeet.j0 k bt250.1 bt250.2 bt256.1 bt256.2 t264 (t272 != t273)))) else (laws_FnCubeMeet.j0 k bt250.1 bt250.2 bt256.1 bt256.2 t264 true)))) else (laws_FnCubeMeet.j0 k bt250.1 bt250.2 bt256.1 bt256.2 t264 true))))))))
theorem laws_FnCubeMeet.mono_l : ∀ k, (∀ y0 y1 y2 y3 y4 y5, LeO (laws_FnCubeMeet.j0 k y0 y1 y2 y3 y4 y5) (laws_FnCubeMeet.j0 (k + 1) y0 y1 y2 y3 y4 y5)) ∧ (∀ y0 y1 y2 y3 y4 y5, LeO (laws_FnCubeMeet.j1 k y0 y1 y2 y3 y4 y5) (laws_FnCubeMeet.j1 (k + 1) y0 y1 y2 y3 y4 y5)) ∧ (∀ y0 y1 y2 y3 y4 y5 y6, LeO (laws_FnCubeMeet.l0 k y0 y1 y2 y3 y4 y5 y6) (laws_FnCubeMeet.l0 (k + 1) y0 y1 y2 y3 y4 y5 y6)) ∧ (∀ y0 y1 y2 y3 y4 y5 y6 y7 y8 y9 y10, LeO (laws_FnCubeMeet.l1 k y0 y1 y2 y3 y4 y5 y6 y7 y8 y9 y10) (laws_FnCubeMeet.l1 (k + 1) y0 y1 y2 y3 y4 y5 y6 y7 y8 y9 y10))
  | 0 => ⟨fun _ _ _ _ _ _ r h => by simp [laws_FnCubeMeet.j0] at h, fun _ _ _ _ _ _ r h => by simp [laws_FnCubeMeet.j1] at h, fun _ _ _ _ _ _ _ r h => by simp [laws_FnCubeMeet.l0] at h, fun _ _ _ _ _ _ _ _ _ _ _ r h => by simp [laws_FnCubeMeet.l1] at h⟩
  | k + 1 => by
    obtain ⟨ih0, ih1, ih2, ih3⟩ := laws_FnCubeMeet.mono_l k
    refine ⟨?_, ?_, ?_, ?_⟩
    · intro y0 y1 y2 y3 y4 y5
      unfold laws_FnCubeMeet.j0
      repeat' first
      | (with_reducible exact ih0 _ _ _ _ _ _)
      | (with_reducible exact ih1 _ _ _ _ _ _)
      | (with_reducible exact ih2 _ _ _ _ _ _ _)
      | (with_reducible exact ih3 _ _ _ _ _ _ _ _ _ _ _)
      | (with_reducible exact impl_CubeHas.mono _ _ _)
      | (with_reducible exact impl_CubeInside.mono _ _ _)
      | (with_reducible exact impl_CubeJoin.mono _ _ _)
      | (with_reducible exact impl_CubeMeet.mono _ _ _)
      | (with_reducible exact impl_CubeSize.mono _ _)
      | (with_reducible exact impl_CubeValid.mono _ _ _)
      | (with_reducible exact laws_wcInts.mono _ _ _)
      | (with_reducible exact spec_CubeJoin.mono _ _ _)
      | (with_reducible exact spec_CubeMeet.mono _ _ _)
      | (with_reducible exact spec_CubeSize.mono _ _)
      | (with_reducible exact spec_DrawCubeMeet.mono _ _)
      | (with_reducible exact LeO.refl _)
      | (with_reducible exact LeO.none _)
      | (with_reducible refine LeO.ite ?_ ?_)
      | (with_reducible refine LeO.bind ?_ (fun _ => ?_))
      | exact ih0 _ _ _ _ _ _
      | exact ih1 _ _ _ _ _ _
      | exact ih2 _ _ _ _ _ _ _
      | exact ih3 _ _ _ _ _ _ _ _ _ _ _
      | exact impl_CubeHas.mono _ _ _
      | exact impl_CubeInside.mono _ _ _
      | exact impl_CubeJoin.mono _ _ _
      | exact impl_CubeMeet.mono _ _ _
      | exact impl_CubeSize.mono _ _
      | exact impl_CubeValid.mono _ _ _
      | exact laws_wcInts.mono _ _ _
      | exact spec_CubeJoin.mono _ _ _
      | exact spec_CubeMeet.mono _ _ _
      | exact spec_CubeSize.mono _ _
      | exact spec_DrawCubeMeet.mono _ _
      | exact LeO.none _
      | refine LeO.ite ?_ ?_
      | refine LeO.bind ?_ (fun _ => ?_)
    · intro y0 y1 y2 y3 y4 y5
      unfold laws_FnCubeMeet.j1
      repeat' first
      | (with_reducible exact ih0 _ _ _ _ _ _)
      | (with_reducible exact ih1 _ _ _ _ _ _)
      | (with_reducible exact ih2 _ _ _ _ _ _ _)
      | (with_reducible exact ih3 _ _ _ _ _ _ _ _ _ _ _)
      | (with_reducible exact impl_CubeHas.mono _ _ _)
      | (with_reducible exact impl_CubeInside.mono _ _ _)
      | (with_reducible exact impl_CubeJoin.mono _ _ _)
      | (with_reducible exact impl_CubeMeet.mono _ _ _)
      | (with_reducible exact impl_CubeSize.mono _ _)
      | (with_reducible exact impl_CubeValid.mono _ _ _)
      | (with_reducible exact laws_wcInts.mono _ _ _)
      | (with_reducible exact spec_CubeJoin.mono _ _ _)
      | (with_reducible exact spec_CubeMeet.mono _ _ _)
      | (with_reducible exact spec_CubeSize.mono _ _)
      | (with_reducible exact spec_DrawCubeMeet.mono _ _)
      | (with_reducible exact LeO.refl _)
      | (with_reducible exact LeO.none _)
      | (with_reducible refine LeO.ite ?_ ?_)
      | (with_reducible refine LeO.bind ?_ (fun _ => ?_))
      | exact ih0 _ _ _ _ _ _
      | exact ih1 _ _ _ _ _ _
      | exact ih2 _ _ _ _ _ _ _
      | exact ih3 _ _ _ _ _ _ _ _ _ _ _
      | exact impl_CubeHas.mono _ _ _
      | exact impl_CubeInside.mono _ _ _
      | exact impl_CubeJoin.mono _ _ _
      | exact impl_CubeMeet.mono _ _ _
      | exact impl_CubeSize.mono _ _
      | exact impl_CubeValid.mono _ _ _
      | exact laws_wcInts.mono _ _ _
      | exact spec_CubeJoin.mono _ _ _
      | exact spec_CubeMeet.mono _ _ _
      | exact spec_CubeSize.mono _ _
      | exact spec_DrawCubeMeet.mono _ _
      | exact LeO.none _
      | refine LeO.ite ?_ ?_
      | refine LeO.bind ?_ (fun _ => ?_)
    · intro y0 y1 y2 y3 y4 y5 y6
      unfold laws_FnCubeMeet.l0
      repeat' first
      | (with_reducible exact ih0 _ _ _ _ _ _)
      | (with_reducible exact ih1 _ _ _ _ _ _)
      | (with_reducible exact ih2 _ _ _ _ _ _ _)
      | (with_reducible exact ih3 _ _ _ _ _ _ _ _ _ _ _)
      | (with_reducible exact impl_CubeHas.mono _ _ _)
      | (with_reducible exact impl_CubeInside.mono _ _ _)
      | (with_reducible exact impl_CubeJoin.mono _ _ _)
      | (with_reducible exact impl_CubeMeet.mono _ _ _)
      | (with_reducible exact impl_CubeSize.mono _ _)
      | (with_reducible exact impl_CubeValid.mono _ _ _)
      | (with_reducible exact laws_wcInts.mono _ _ _)
      | (with_reducible exact spec_CubeJoin.mono _ _ _)
      | (with_reducible exact spec_CubeMeet.mono _ _ _)
      | (with_reducible exact spec_CubeSize.mono _ _)
      | (with_reducible exact spec_DrawCubeMeet.mono _ _)
      | (with_reducible exact LeO.refl _)
      | (with_reducible exact LeO.none _)
      | (with_reducible refine LeO.ite ?_ ?_)
      | (with_reducible refine LeO.bind ?_ (fun _ => ?_))
      | exact ih0 _ _ _ _ _ _
      | exact ih1 _ _ _ _ _ _
      | exact ih2 _ _ _ _ _ _ _
      | exact ih3 _ _ _ _ _ _ _ _ _ _ _
      | exact impl_CubeHas.mono _ _ _
      | exact impl_CubeInside.mono _ _ _
      | exact impl_CubeJoin.mono _ _ _
      | exact impl_CubeMeet.mono _ _ _
      | exact impl_CubeSize.mono _ _
      | exact impl_CubeValid.mono _ _ _
      | exact laws_wcInts.mono _ _ _
      | exact spec_CubeJoin.mono _ _ _
      | exact spec_CubeMeet.mono _ _ _
      | exact spec_CubeSize.mono _ _
      | exact spec_DrawCubeMeet.mono _ _
      | exact LeO.none _
      | refine LeO.ite ?_ ?_
      | refine LeO.bind ?_ (fun _ => ?_)
    · intro y0 y1 y2 y3 y4 y5 y6 y7 y8 y9 y10
      unfold laws_FnCubeMeet.l1
      repeat' first
      | (with_reducible exact ih0 _ _ _ _ _ _)
      | (with_reducible exact ih1 _ _ _ _ _ _)
      | (with_reducible exact ih2 _ _ _ _ _ _ _)
      | (with_reducible exact ih3 _ _ _ _ _ _ _ _ _ _ _)
      | (with_reducible exact impl_CubeHas.mono _ _ _)
      | (with_reducible exact impl_CubeInside.mono _ _ _)
      | (with_reducible exact impl_CubeJoin.mono _ _ _)
      | (with_reducible exact impl_CubeMeet.mono _ _ _)
      | (with_reducible exact impl_CubeSize.mono _ _)
      | (with_reducible exact impl_CubeValid.mono _ _ _)
      | (with_reducible exact laws_wcInts.mono _ _ _)
      | (with_reducible exact spec_CubeJoin.mono _ _ _)
      | (with_reducible exact spec_CubeMeet.mono _ _ _)
      | (with_reducible exact spec_CubeSize.mono _ _)
      | (with_reducible exact spec_DrawCubeMeet.mono _ _)
      | (with_reducible exact LeO.refl _)
      | (with_reducible exact LeO.none _)
      | (with_reducible refine LeO.ite ?_ ?_)
      | (with_reducible refine LeO.bind ?_ (fun _ => ?_))
      | exact ih0 _ _ _ _ _ _
      | exact ih1 _ _ _ _ _ _
      | exact ih2 _ _ _ _ _ _ _
      | exact ih3 _ _ _ _ _ _ _ _ _ _ _
      | exact impl_CubeHas.mono _ _ _
      | exact impl_CubeInside.mono _ _ _
      | exact impl_CubeJoin.mono _ _ _
      | exact impl_CubeMeet.mono _ _ _
      | exact impl_CubeSize.mono _ _
      | exact impl_CubeValid.mono _ _ _
      | exact laws_wcInts.mono _ _ _
      | exact spec_CubeJoin.mono _ _ _
      | exact spec_CubeMeet.mono _ _ _
      | exact spec_CubeSize.mono _ _
      | exact spec_DrawCubeMeet.mono _ _
      | exact LeO.none _
      | refine LeO.ite ?_ ?_
      | refine LeO.bind ?_ (fun _ => ?_)
theorem laws_FnCubeMeet.mono : ∀ a0 k, LeO (laws_FnCubeMeet.f k a0) (laws_FnCubeMeet.f (k + 1) a0) := by
  intro a0 k
  obtain ⟨ih0, ih1, ih2, ih3⟩ := laws_FnCubeMeet.mono_l k
  unfold laws_FnCubeMeet.f
  repeat' first
      | (with_reducible exact ih0 _ _ _ _ _ _)
      | (with_reducible exact ih1 _ _ _ _ _ _)
      | (with_reducible exact ih2 _ _ _ _ _ _ _)
      | (with_reducible exact ih3 _ _ _ _ _ _ _ _ _ _ _)
      | (with_reducible exact impl_CubeHas.mono _ _ _)
      | (with_reducible exact impl_CubeInside.mono _ _ _)
      | (with_reducible exact impl_CubeJoin.mono _ _ _)
      | (with_reducible exact impl_CubeMeet.mono _ _ _)
      | (with_reducible exact impl_CubeSize.mono _ _)
      | (with_reducible exact impl_CubeValid.mono _ _ _)
      | (with_reducible exact laws_wcInts.mono _ _ _)
      | (with_reducible exact spec_CubeJoin.mono _ _ _)
      | (with_reducible exact spec_CubeMeet.mono _ _ _)
      | (with_reducible exact spec_CubeSize.mono _ _)
      | (with_reducible exact spec_DrawCubeMeet.mono _ _)
      | (with_reducible exact LeO.refl _)
      | (with_reducible exact LeO.none _)
      | (with_reducible refine LeO.ite ?_ ?_)
      | (with_reducible refine LeO.bind ?_ (fun _ => ?_))
      | exact ih0 _ _ _ _ _ _
      | exact ih1 _ _ _ _ _ _
      | exact ih2 _ _ _ _ _ _ _
      | exact ih3 _ _ _ _ _ _ _ _ _ _ _
      | exact impl_CubeHas.mono _ _ _
      | exact impl_CubeInside.mono _ _ _
      | exact impl_CubeJoin.mono _ _ _
      | exact impl_CubeMeet.mono _ _ _
      | exact impl_CubeSize.mono _ _
      | exact impl_CubeValid.mono _ _ _
      | exact laws_wcInts.mono _ _ _
      | exact spec_CubeJoin.mono _ _ _
      | exact spec_CubeMeet.mono _ _ _
      | exact spec_CubeSize.mono _ _
      | exact spec_DrawCubeMeet.mono _ _
      | exact LeO.none _
      | refine LeO.ite ?_ ?_
      | refine LeO.bind ?_ (fun _ => ?_)
set_option maxHeartbeats 8000000 in
set_option maxRecDepth 100000 in
theorem laws_FnCubeMeet.calls (k : Nat) (A0 : Option Addr) (c0 : Nat) (l0 : List Int) (r : Bool) (w : World) (hr0 : Kd.C (Kd.int .u8) w A0 l0.length l0) (hc0 : l0.length ≤ c0) (h : laws_FnCubeMeet.f k l0 = some r) :
    Calls Try.prog 8 #[.slice A0 l0.length c0] w fun e w' => e = .returned (.bool r) ∧ Below w.heap.size w w' := by
  have HR0 := Aside0.mk hr0
  have HC0 := Aside0.mk hc0
  clear hr0 hc0
  have HB := Aside0.mk (Below.refl w.heap.size w)
  have H : (if (l0.length : Int) > 1048576 then (some true) else ((spec_DrawCubeMeet.f k l0).bind fun bt250 => ((impl_CubeMeet.f k bt250.1 bt250.2).bind fun bt256 => ((spec_CubeMeet.f k bt250.1 bt250.2).bind fun bt260 => ((impl_CubeJoin.f k bt250.1 bt250.2).bind fun t264 => (if (bt256.2 != bt260.2) = true then (laws_FnCubeMeet.j0 k bt250.1 bt250.2 bt256.1 bt256.2 t264 true) else ((laws_wcInts.f k bt256.1 bt260.1).bind fun t267 => (if t267 = true then ((spec_CubeJoin.f k bt250.1 bt250.2).bind fun t268 => ((laws_wcInts.f k t264 t268).bind fun t271 => (if t271 = true then ((impl_CubeSize.f k bt250.1).bind fun t272 => ((spec_CubeSize.f k bt250.1).bind fun t273 => (laws_FnCubeMeet.j0 k bt250.1 bt250.2 bt256.1 bt256.2 t264 (t272 != t273)))) else (laws_FnCubeMeet.j0 k bt250.1 bt250.2 bt256.1 bt256.2 t264 true)))) else (laws_FnCubeMeet.j0 k bt250.1 bt250.2 bt256.1 bt256.2 t264 true))))))))) = some r := h
  clear h
  by_cases c2 : (l0.length : Int) > 1048576
  · rw [if_pos c2] at H
    have c2b0 : decide (1048576 < (l0.length : Int)) = true := decide_eq_true c2
    have c2b1 : decide (1048576 < l0.length) = true := decide_eq_true (by omega)
    clear c2
    obtain rfl := Option.some.inj H
    go_enter Try.func8, Try.ntmps8
    go_wp2
    go_ret
    exact ⟨by first | rfl | (simp [errW_none, errW_some] <;> rfl) | (simp [*, errW_none, errW_some] <;> rfl), by repeat (first | (with_reducible first | exact HB.out | apply below_alloc | apply pw_below_drewN | apply below_drew1) | exact HB.out)⟩
  · rw [if_neg c2] at H
    have c2b0 : decide (1048576 < (l0.length : Int)) = false := decide_eq_false c2
    have c2b1 : decide (1048576 < l0.length) = false := decide_eq_false (by omega)
    clear c2
    replace H := Option.bind_eq_some_iff.mp H
    obtain ⟨⟨t250, t251⟩, A30, H⟩ := H
    replace H : ((impl_CubeMeet.f k t250 t251).bind fun bt256 => ((spec_CubeMeet.f k t250 t251).bind fun bt260 => ((impl_CubeJoin.f k t250 t251).bind fun t264 => (if (bt256.2 != bt260.2) = true then (laws_FnCubeMeet.j0 k t250 t251 bt256.1 bt256.2 t264 true) else ((laws_wcInts.f k bt256.1 bt260.1).bind fun t267 => (if t267 = true then ((spec_CubeJoin.f k t250 t251).bind fun t268 => ((laws_wcInts.f k t264 t268).bind fun t271 => (if t271 = true then ((impl_CubeSize.f k t250).bind fun t272 => ((spec_CubeSize.f k t250).bind fun t273 => (laws_FnCubeMeet.j0 k t250 t251 bt256.1 bt256.2 t264 (t272 != t273)))) else (laws_FnCubeMeet.j0 k t250 t251 bt256.1 bt256.2 t264 true)))) else (laws_FnCubeMeet.j0 k t250 t251 bt256.1 bt256.2 t264 true))))))) = some r := H
    have A3 := Aside0.mk A30
    clear A30
    replace H := Option.bind_eq_some_iff.mp H
    obtain ⟨⟨t256, t257⟩, A40, H⟩ := H
    replace H : ((spec_CubeMeet.f k t250 t251).bind fun bt260 => ((impl_CubeJoin.f k t250 t251).bind fun t264 => (if (t257 != bt260.2) = true then (laws_FnCubeMeet.j0 k t250 t251 t256 t257 t264 true) else ((laws_wcInts.f k t256 bt260.1).bind fun t267 => (if t267 = true then ((spec_CubeJoin.f k t250 t251).bind fun t268 => ((laws_wcInts.f k t264 t268).bind fun t271 => (if t271 = true then ((impl_CubeSize.f k t250).bind fun t272 => ((spec_CubeSize.f k t250).bind fun t273 => (laws_FnCubeMeet.j0 k t250 t251 t256 t257 t264 (t272 != t273)))) else (laws_FnCubeMeet.j0 k t250 t251 t256 t257 t264 true)))) else (laws_FnCubeMeet.j0 k t250 t251 t256 t257 t264 true)))))) = some r := H
    have A4 := Aside0.mk A40
    clear A40
    replace H := Option.bind_eq_some_iff.mp H
    obtain ⟨⟨t260, t261⟩, A50, H⟩ := H
    replace H : ((impl_CubeJoin.f k t250 t251).bind fun t264 => (if (t257 != t261) = true then (laws_FnCubeMeet.j0 k t250 t251 t256 t257 t264 true) else ((laws_wcInts.f k t256 t260).bind fun t267 => (if t267 = true then ((spec_CubeJoin.f k t250 t251).bind fun t268 => ((laws_wcInts.f k t264 t268).bind fun t271 => (if t271 = true then ((impl_CubeSize.f k t250).bind fun t272 => ((spec_CubeSize.f k t250).bind fun t273 => (laws_FnCubeMeet.j0 k t250 t251 t256 t257 t264 (t272 != t273)))) else (laws_FnCubeMeet.j0 k t250 t251 t256 t257 t264 true)))) else (laws_FnCubeMeet.j0 k t250 t251 t256 t257 t264 true))))) = some r := H
    have A5 := Aside0.mk A50
    clear A50
    replace H := Option.bind_eq_some_iff.mp H
    obtain ⟨t264, A60, H⟩ := H
    replace H : (if (t257 != t261) = true then (laws_FnCubeMeet.j0 k t250 t251 t256 t257 t264 true) else ((laws_wcInts.f k t256 t260).bind fun t267 => (if t267 = true then ((spec_CubeJoin.f k t250 t251).bind fun t268 => ((laws_wcInts.f k t264 t268).bind fun t271 => (if t271 = true then ((impl_CubeSize.f k t250).bind fun t272 => ((spec_CubeSize.f k t250).bind fun t273 => (laws_FnCubeMeet.j0 k t250 t251 t256 t257 t264 (t272 != t273)))) else (laws_FnCubeMeet.j0 k t250 t251 t256 t257 t264 true)))) else (laws_FnCubeMeet.j0 k t250 t251 t256 t257 t264 true)))) = some r := H
    have A6 := Aside0.mk A60
    clear A60
    have HC7 := Aside0.mk H
    clear H
    go_enter Try.func8, Try.ntmps8
    go_upto_region 7 with (first | ((with_reducible refine gate_callee (f := 43) rfl ?_); refine goesL_ (some 20) rfl rfl Try.func43 (by kernel_rfl) rfl #[.slice A0 l0.length c0] rfl (by (try simp only [List.map_toArray, List.map_cons, List.map_nil]); first | done | rfl | (simp only [List.length_drop, List.length_take]; rfl)) ?_; (with_reducible refine (spec_DrawCubeMeet.calls k _ _ l0 t250 t251 _ ?side1 ?side2 A3.out).mono ?_); (case side1 => repeat (first | exact HR0.out | (with_reducible refine Kd.C_alloc ?_ _) | (with_reducible refine Kd.C_drewN ?_ _) | (with_reducible refine Kd.C_drew ?_))); (case side2 => exact HC0.out); rintro e w8 ⟨v252, v254, rfl, ho0, ho1, hb⟩; refine ⟨_, rfl, ?_⟩; have n0_ := Aside0.mk (Kd.R_lower ho0 (below_size (by repeat (first | (with_reducible first | exact HB.out | apply below_alloc | apply pw_below_drewN | apply below_drew1) | exact HB.out)))); have n1_ := Aside0.mk (Kd.R_lower ho1 (below_size (by repeat (first | (with_reducible first | exact HB.out | apply below_alloc | apply pw_below_drewN | apply below_drew1) | exact HB.out)))); have n2_ := Aside0.mk (below_step (by repeat (first | (with_reducible first | exact HB.out | apply below_alloc | apply pw_below_drewN | apply below_drew1) | exact HB.out)) hb); clear HB; have HO253 := n0_; have HO255 := n1_; have HB := n2_; clear n0_ n1_ n2_; (try clear hb); (try clear hb2); (try clear hk); (try clear hi); (try clear ho0); (try clear ho1); obtain ⟨Ao9, co9, eo9⟩ := Kd.R_slice HO253.out; subst eo9; obtain ⟨Ao10, co10, eo10⟩ := Kd.R_slice HO255.out; subst eo10) | ((with_reducible refine gate_callee (f := 44) rfl ?_); refine goesL_ (some 26) rfl rfl Try.func44 (by kernel_rfl) rfl #[.slice Ao9 t250.length co9, .slice Ao10 t251.length co10] rfl (by (try simp only [List.map_toArray, List.map_cons, List.map_nil]); first | done | rfl | (simp only [List.length_drop, List.length_take]; rfl)) ?_; (with_reducible refine (impl_CubeMeet.calls k _ _ t250 _ _ t251 t256 t257 _ ?side1 ?side2 ?side3 ?side4 A4.out).mono ?_); (case side1 => repeat (first | exact (Kd.R_reads' HO253.out).2.2 | (with_reducible refine Kd.C_alloc ?_ _) | (with_reducible refine Kd.C_drewN ?_ _) | (with_reducible refine Kd.C_drew ?_))); (case side2 => exact (Kd.R_reads' HO253.out).2.1); (case side3 => repeat (first | exact (Kd.R_reads' HO255.out).2.2 | (with_reducible refine Kd.C_alloc ?_ _) | (with_reducible refine Kd.C_drewN ?_ _) | (with_reducible refine Kd.C_drew ?_))); (case side4 => exact (Kd.R_reads' HO255.out).2.1); rintro e w11 ⟨v258, rfl, ho0, hb⟩; refine ⟨_, rfl, ?_⟩; have n0_ := Aside0.mk (Kd.R_elder' (by (with_reducible repeat (first | apply Kd.R_alloc | apply Kd.R_drewN | apply Kd.R_drew)); exact HO253.out) (Kd.R_base ho0) hb); have n1_ := Aside0.mk (Kd.R_elder' (by (with_reducible repeat (first | apply Kd.R_alloc | apply Kd.R_drewN | apply Kd.R_drew)); exact HO255.out) (Kd.R_base ho0) hb); have n2_ := Aside0.mk (Kd.R_lower (Kd.R_new' (Kd.R_new' ho0 (Kd.R_lt (by (with_reducible repeat (first | apply Kd.R_alloc | apply Kd.R_drewN | apply Kd.R_drew)); exact HO253.out))) (Kd.R_lt (by (with_reducible repeat (first | apply Kd.R_alloc | apply Kd.R_drewN | apply Kd.R_drew)); exact HO255.out))) (below_size (by repeat (first | (with_reducible first | exact HB.out | apply below_alloc | apply pw_below_drewN | apply below_drew1) | exact HB.out)))); have n3_ := Aside0.mk (below_step (by repeat (first | (with_reducible first | exact HB.out | apply below_alloc | apply pw_below_drewN | apply below_drew1) | exact HB.out)) hb); clear HO253; clear HO255; clear HB; have HO253 := n0_; have HO255 := n1_; have HO259 := n2_; have HB := n3_; clear n0_ n1_ n2_ n3_; (try clear hb); (try clear hb2); (try clear hk); (try clear hi); (try clear ho0)) | ((with_reducible refine gate_callee (f := 45) rfl ?_); refine goesL_ (some 32) rfl rfl Try.func45 (by kernel_rfl) rfl #[.slice Ao9 t250.length co9, .slice Ao10 t251.length co10] rfl (by (try simp only [List.map_toArray, List.map_cons, List.map_nil]); first | done | rfl | (simp only [List.length_drop, List.length_take]; rfl)) ?_; (with_reducible refine (spec_CubeMeet.calls k _ _ t250 _ _ t251 t260 t261 _ ?side1 ?side2 ?side3 ?side4 A5.out).mono ?_); (case side1 => repeat (first | exact (Kd.R_reads' HO253.out).2.2 | (with_reducible refine Kd.C_alloc ?_ _) | (with_reducible refine Kd.C_drewN ?_ _) | (with_reducible refine Kd.C_drew ?_))); (case side2 => exact (Kd.R_reads' HO253.out).2.1); (case side3 => repeat (first | exact (Kd.R_reads' HO255.out).2.2 | (with_reducible refine Kd.C_alloc ?_ _) | (with_reducible refine Kd.C_drewN ?_ _) | (with_reducible refine Kd.C_drew ?_))); (case side4 => exact (Kd.R_reads' HO255.out).2.1); rintro e w12 ⟨v262, rfl, ho0, hb⟩; refine ⟨_, rfl, ?_⟩; have n0_ := Aside0.mk (Kd.R_elder' (by (with_reducible repeat (first | apply Kd.R_alloc | apply Kd.R_drewN | apply Kd.R_drew)); exact HO253.out) (Kd.R_base ho0) hb); have n1_ := Aside0.mk (Kd.R_elder' (by (with_reducible repeat (first | apply Kd.R_alloc | apply Kd.R_drewN | apply Kd.R_drew)); exact HO255.out) (Kd.R_base ho0) hb); have n2_ := Aside0.mk (Kd.R_elder' (by (with_reducible repeat (first | apply Kd.R_alloc | apply Kd.R_drewN | apply Kd.R_drew)); exact HO259.out) (Kd.R_base ho0) hb); have n3_ := Aside0.mk (Kd.R_lower (Kd.R_new' (Kd.R_new' (Kd.R_new' ho0 (Kd.R_lt (by (with_reducible repeat (first | apply Kd.R_alloc | apply Kd.R_drewN | apply Kd.R_drew)); exact HO253.out))) (Kd.R_lt (by (with_reducible repeat (first | apply Kd.R_alloc | apply Kd.R_drewN | apply Kd.R_drew)); exact HO255.out))) (Kd.R_lt (by (with_reducible repeat (first | apply Kd.R_alloc | apply Kd.R_drewN | apply Kd.R_drew)); exact HO259.out))) (below_size (by repeat (first | (with_reducible first | exact HB.out | apply below_alloc | apply pw_below_drewN | apply below_drew1) | exact HB.out)))); have n4_ := Aside0.mk (below_step (by repeat (first | (with_reducible first | exact HB.out | apply below_alloc | apply pw_below_drewN | apply below_drew1) | exact HB.out)) hb); clear HO253; clear HO255; clear HO259; clear HB; have HO253 := n0_; have HO255 := n1_; have HO259 := n2_; have HO263 := n3_; have HB := n4_; clear n0_ n1_ n2_ n3_ n4_; (try clear hb); (try clear hb2); (try clear hk); (try clear hi); (try clear ho0)) | ((with_reducible refine gate_callee (f := 46) rfl ?_); refine goesL_ (some 37) rfl rfl Try.func46 (by kernel_rfl) rfl #[.slice Ao9 t250.length co9, .slice Ao10 t251.length co10] rfl (by (try simp only [List.map_toArray, List.map_cons, List.map_nil]); first | done | rfl | (simp only [List.length_drop, List.length_take]; rfl)) ?_; (with_reducible refine (impl_CubeJoin.calls k _ _ t250 _ _ t251 t264 _ ?side1 ?side2 ?side3 ?side4 A6.out).mono ?_); (case side1 => repeat (first | exact (Kd.R_reads' HO253.out).2.2 | (with_reducible refine Kd.C_alloc ?_ _) | (with_reducible refine Kd.C_drewN ?_ _) | (with_reducible refine Kd.C_drew ?_))); (case side2 => exact (Kd.R_reads' HO253.out).2.1); (case side3 => repeat (first | exact (Kd.R_reads' HO255.out).2.2 | (with_reducible refine Kd.C_alloc ?_ _) | (with_reducible refine Kd.C_drewN ?_ _) | (with_reducible refine Kd.C_drew ?_))); (case side4 => exact (Kd.R_reads' HO255.out).2.1); rintro e w13 ⟨v265, rfl, ho0, hb⟩; refine ⟨_, rfl, ?_⟩; have n0_ := Aside0.mk (Kd.R_elder' (by (with_reducible repeat (first | apply Kd.R_alloc | apply Kd.R_drewN | apply Kd.R_drew)); exact HO253.out) (Kd.R_base ho0) hb); have n1_ := Aside0.mk (Kd.R_elder' (by (with_reducible repeat (first | apply Kd.R_alloc | apply Kd.R_drewN | apply Kd.R_drew)); exact HO255.out) (Kd.R_base ho0) hb); have n2_ := Aside0.mk (Kd.R_elder' (by (with_reducible repeat (first | apply Kd.R_alloc | apply Kd.R_drewN | apply Kd.R_drew)); exact HO259.out) (Kd.R_base ho0) hb); have n3_ := Aside0.mk (Kd.R_elder' (by (with_reducible repeat (first | apply Kd.R_alloc | apply Kd.R_drewN | apply Kd.R_drew)); exact HO263.out) (Kd.R_base ho0) hb); have n4_ := Aside0.mk (Kd.R_lower (Kd.R_new' (Kd.R_new' (Kd.R_new' (Kd.R_new' ho0 (Kd.R_lt (by (with_reducible repeat (first | apply Kd.R_alloc | apply Kd.R_drewN | apply Kd.R_drew)); exact HO253.out))) (Kd.R_lt (by (with_reducible repeat (first | apply Kd.R_alloc | apply Kd.R_drewN | apply Kd.R_drew)); exact HO255.out))) (Kd.R_lt (by (with_reducible repeat (first | apply Kd.R_alloc | apply Kd.R_drewN | apply Kd.R_drew)); exact HO259.out))) (Kd.R_lt (by (with_reducible repeat (first | apply Kd.R_alloc | apply Kd.R_drewN | apply Kd.R_drew)); exact HO263.out))) (below_size (by repeat (first | (with_reducible first | exact HB.out | apply below_alloc | apply pw_below_drewN | apply below_drew1) | exact HB.out)))); have n5_ := Aside0.mk (below_step (by repeat (first | (with_reducible first | exact HB.out | apply below_alloc | apply pw_below_drewN | apply below_drew1) | exact HB.out)) hb); clear HO253; clear HO255; clear HO259; clear HO263; clear HB; have HO253 := n0_; have HO255 := n1_; have HO259 := n2_; have HO263 := n3_; have HO266 := n4_; have HB := n5_; clear n0_ n1_ n2_ n3_ n4_ n5_; (try clear hb); (try clear hb2); (try clear hk); (try clear hi); (try clear ho0)))
    (try simp only [Act.put, List.setIfInBounds_toArray, List.set_cons_zero, List.set_cons_succ])
    go_cut [61] (fun v61 wc => ∃ (kq : Nat) (x61_6 : Bool), v61 = .bool x61_6 ∧ Aside0 (laws_FnCubeMeet.j0 kq t250 t251 t256 t257 t264 x61_6 = some r) ∧ Aside0 (kq ≤ k) ∧ Aside0 (Kd.R (Kd.int .i64) 3 wc w.heap.size (fun k_ => some k_ ≠ ((.slice Ao10 t251.length co10) : Value).ownBlock ∧ some k_ ≠ (v258 : Value).ownBlock ∧ some k_ ≠ (v265 : Value).ownBlock) (.slice Ao9 t250.length co9) t250) ∧ Aside0 (Kd.R (Kd.int .i64) 3 wc w.heap.size (fun k_ => some k_ ≠ ((.slice Ao9 t250.length co9) : Value).ownBlock ∧ some k_ ≠ (v258 : Value).ownBlock ∧ some k_ ≠ (v265 : Value).ownBlock) (.slice Ao10 t251.length co10) t251) ∧ Aside0 (Kd.R (Kd.int .i64) 3 wc w.heap.size (fun k_ => some k_ ≠ ((.slice Ao9 t250.length co9) : Value).ownBlock ∧ some k_ ≠ ((.slice Ao10 t251.length co10) : Value).ownBlock ∧ some k_ ≠ (v265 : Value).ownBlock) v258 t256) ∧ Aside0 (Kd.R (Kd.int .i64) 3 wc w.heap.size (fun k_ => some k_ ≠ ((.slice Ao9 t250.length co9) : Value).ownBlock ∧ some k_ ≠ ((.slice Ao10 t251.length co10) : Value).ownBlock ∧ some k_ ≠ (v258 : Value).ownBlock) v265 t264) ∧ Aside0 (Below w.heap.size w wc))
    case first =>
      have H := HC7.out
      clear HC7
      by_cases c14 : (t257 != t261) = true
      · rw [if_pos c14] at H
        have c14b0 : (t257 != t261) = true := c14
        (try (have c14b1 : decide (t257 = t261) = false := by first | (exfalso; simp at c14; done) | simpa using c14))
        (try (have c14b2 : (t257 == t261) = false := by first | (exfalso; simp at c14; done) | simpa using c14))
        (try (have c14b3 : ¬ (t257 = t261) := by first | (exfalso; simp at c14; done) | simpa using c14))
        clear c14
        (first | rw [c14b0] | (simp only [i64_w, i32_w]; rw [c14b0]) | rw [c14b1] | simp only [c14b1] | skip)
        have H' := Aside0.mk H
        clear H
        go_wp2
        go_meet
        case rel => exact ⟨_, (true), (by first | rfl | (simp; done) | (simp [*]; done)), H', ⟨by first | omega | exact Nat.le_refl _⟩, ⟨by (with_reducible repeat (first | apply Kd.R_alloc | apply Kd.R_drewN | apply Kd.R_drew)); exact Kd.R_mono HO253.out (fun _ hk => ⟨hk.1.1.1, ⟨hk.1.1.2, hk.2⟩⟩)⟩, ⟨by (with_reducible repeat (first | apply Kd.R_alloc | apply Kd.R_drewN | apply Kd.R_drew)); exact Kd.R_mono HO255.out (fun _ hk => ⟨hk.1.1.1, ⟨hk.1.1.2, hk.2⟩⟩)⟩, ⟨by (with_reducible repeat (first | apply Kd.R_alloc | apply Kd.R_drewN | apply Kd.R_drew)); exact Kd.R_mono HO259.out (fun _ hk => ⟨hk.1.1.1.2, ⟨hk.1.1.2, hk.2⟩⟩)⟩, ⟨by (with_reducible repeat (first | apply Kd.R_alloc | apply Kd.R_drewN | apply Kd.R_drew)); exact Kd.R_mono HO266.out (fun _ hk => ⟨hk.1.1.1.2, ⟨hk.1.1.2, hk.1.2⟩⟩)⟩, ⟨by repeat (first | (with_reducible first | exact HB.out | apply below_alloc | apply pw_below_drewN | apply below_drew1) | exact HB.out)⟩⟩
      · rw [if_neg c14] at H
        have c14b0 : (t257 != t261) = false := by simpa using c14
        (try (have c14b1 : decide (t257 = t261) = true := by first | (exfalso; simp at c14; done) | simpa using c14))
        (try (have c14b2 : (t257 == t261) = true := by first | (exfalso; simp at c14; done) | simpa using c14))
        clear c14
        (first | rw [c14b0] | (simp only [i64_w, i32_w]; rw [c14b0]) | rw [c14b1] | simp only [c14b1] | skip)
        replace H := Option.bind_eq_some_iff.mp H
        obtain ⟨t267, A150, H⟩ := H
        replace H : (if t267 = true then ((spec_CubeJoin.f k t250 t251).bind fun t268 => ((laws_wcInts.f k t264 t268).bind fun t271 => (if t271 = true then ((impl_CubeSize.f k t250).bind fun t272 => ((spec_CubeSize.f k t250).bind fun t273 => (laws_FnCubeMeet.j0 k t250 t251 t256 t257 t264 (t272 != t273)))) else (laws_FnCubeMeet.j0 k t250 t251 t256 t257 t264 true)))) else (laws_FnCubeMeet.j0 k t250 t251 t256 t257 t264 true)) = some r := H
        have A15 := Aside0.mk A150
        clear A150
        by_cases c16 : t267 = true
        · subst c16
          have H1 : ((spec_CubeJoin.f k t250 t251).bind fun t268 => ((laws_wcInts.f k t264 t268).bind fun t271 => (if t271 = true then ((impl_CubeSize.f k t250).bind fun t272 => ((spec_CubeSize.f k t250).bind fun t273 => (laws_FnCubeMeet.j0 k t250 t251 t256 t257 t264 (t272 != t273)))) else (laws_FnCubeMeet.j0 k t250 t251 t256 t257 t264 true)))) = some r := by rw [if_pos rfl] at H; exact H
          clear H
          have H := H1
          clear H1
          replace H := Option.bind_eq_some_iff.mp H
          obtain ⟨t268, A170, H⟩ := H
          replace H : ((laws_wcInts.f k t264 t268).bind fun t271 => (if t271 = true then ((impl_CubeSize.f k t250).bind fun t272 => ((spec_CubeSize.f k t250).bind fun t273 => (laws_FnCubeMeet.j0 k t250 t251 t256 t257 t264 (t272 != t273)))) else (laws_FnCubeMeet.j0 k t250 t251 t256 t257 t264 true))) = some r := H
          have A17 := Aside0.mk A170
          clear A170
          replace H := Option.bind_eq_some_iff.mp H
          obtain ⟨t271, A180, H⟩ := H
          replace H : (if t271 = true then ((impl_CubeSize.f k t250).bind fun t272 => ((spec_CubeSize.f k t250).bind fun t273 => (laws_FnCubeMeet.j0 k t250 t251 t256 t257 t264 (t272 != t273)))) else (laws_FnCubeMeet.j0 k t250 t251 t256 t257 t264 true)) = some r := H
          have A18 := Aside0.mk A180
          clear A180
          by_cases c19 : t271 = true
          · subst c19
            have H1 : ((impl_CubeSize.f k t250).bind fun t272 => ((spec_CubeSize.f k t250).bind fun t273 => (laws_FnCubeMeet.j0 k t250 t251 t256 t257 t264 (t272 != t273)))) = some r := by rw [if_pos rfl] at H; exact H
            clear H
            have H := H1
            clear H1
            replace H := Option.bind_eq_some_iff.mp H
            obtain ⟨t272, A200, H⟩ := H
            replace H : ((spec_CubeSize.f k t250).bind fun t273 => (laws_FnCubeMeet.j0 k t250 t251 t256 t257 t264 (t272 != t273))) = some r := H
            have A20 := Aside0.mk A200
            clear A200
            replace H := Option.bind_eq_some_iff.mp H
            obtain ⟨t273, A210, H⟩ := H
            replace H : (laws_FnCubeMeet.j0 k t250 t251 t256 t257 t264 (t272 != t273)) = some r := H
            have A21 := Aside0.mk A210
            clear A210
            have H' := Aside0.mk H
            clear H
            obtain ⟨Ao22, co22, eo22⟩ := Kd.R_slice HO259.out
            subst eo22
            obtain ⟨Ao23, co23, eo23⟩ := Kd.R_slice HO263.out
            subst eo23
            go_wp2_with (first | (go_at_call 47; (with_reducible refine (laws_wcInts.calls k _ _ t256 _ _ t260 true _ ?side1 ?side2 ?side3 ?side4 A15.out).mono ?_); (case side1 => repeat (first | exact (Kd.R_reads' HO259.out).2.2 | (with_reducible refine Kd.C_alloc ?_ _) | (with_reducible refine Kd.C_drewN ?_ _) | (with_reducible refine Kd.C_drew ?_))); (case side2 => exact (Kd.R_reads' HO259.out).2.1); (case side3 => repeat (first | exact (Kd.R_reads' HO263.out).2.2 | (with_reducible refine Kd.C_alloc ?_ _) | (with_reducible refine Kd.C_drewN ?_ _) | (with_reducible refine Kd.C_drew ?_))); (case side4 => exact (Kd.R_reads' HO263.out).2.1); rintro e w' ⟨rfl, ⟨nd, rfl⟩⟩) | (go_at_call 48; (with_reducible refine (spec_CubeJoin.calls k _ _ t250 _ _ t251 t268 _ ?side1 ?side2 ?side3 ?side4 A17.out).mono ?_); (case side1 => repeat (first | exact (Kd.R_reads' HO253.out).2.2 | (with_reducible refine Kd.C_alloc ?_ _) | (with_reducible refine Kd.C_drewN ?_ _) | (with_reducible refine Kd.C_drew ?_))); (case side2 => exact (Kd.R_reads' HO253.out).2.1); (case side3 => repeat (first | exact (Kd.R_reads' HO255.out).2.2 | (with_reducible refine Kd.C_alloc ?_ _) | (with_reducible refine Kd.C_drewN ?_ _) | (with_reducible refine Kd.C_drew ?_))); (case side4 => exact (Kd.R_reads' HO255.out).2.1); rintro e w24 ⟨v269, rfl, ho0, hb⟩; have n0_ := Aside0.mk (Kd.R_elder' (by (with_reducible repeat (first | apply Kd.R_alloc | apply Kd.R_drewN | apply Kd.R_drew)); exact HO253.out) (Kd.R_base ho0) hb); have n1_ := Aside0.mk (Kd.R_elder' (by (with_reducible repeat (first | apply Kd.R_alloc | apply Kd.R_drewN | apply Kd.R_drew)); exact HO255.out) (Kd.R_base ho0) hb); have n2_ := Aside0.mk (Kd.R_elder' (by (with_reducible repeat (first | apply Kd.R_alloc | apply Kd.R_drewN | apply Kd.R_drew)); exact HO259.out) (Kd.R_base ho0) hb); have n3_ := Aside0.mk (Kd.R_elder' (by (with_reducible repeat (first | apply Kd.R_alloc | apply Kd.R_drewN | apply Kd.R_drew)); exact HO263.out) (Kd.R_base ho0) hb); have n4_ := Aside0.mk (Kd.R_elder' (by (with_reducible repeat (first | apply Kd.R_alloc | apply Kd.R_drewN | apply Kd.R_drew)); exact HO266.out) (Kd.R_base ho0) hb); have n5_ := Aside0.mk (Kd.R_lower (Kd.R_new' (Kd.R_new' (Kd.R_new' (Kd.R_new' (Kd.R_new' ho0 (Kd.R_lt (by (with_reducible repeat (first | apply Kd.R_alloc | apply Kd.R_drewN | apply Kd.R_drew)); exact HO253.out))) (Kd.R_lt (by (with_reducible repeat (first | apply Kd.R_alloc | apply Kd.R_drewN | apply Kd.R_drew)); exact HO255.out))) (Kd.R_lt (by (with_reducible repeat (first | apply Kd.R_alloc | apply Kd.R_drewN | apply Kd.R_drew)); exact HO259.out))) (Kd.R_lt (by (with_reducible repeat (first | apply Kd.R_alloc | apply Kd.R_drewN | apply Kd.R_drew)); exact HO263.out))) (Kd.R_lt (by (with_reducible repeat (first | apply Kd.R_alloc | apply Kd.R_drewN | apply Kd.R_drew)); exact HO266.out))) (below_size (by repeat (first | (with_reducible first | exact HB.out | apply below_alloc | apply pw_below_drewN | apply below_drew1) | exact HB.out)))); have n6_ := Aside0.mk (below_step (by repeat (first | (with_reducible first | exact HB.out | apply below_alloc | apply pw_below_drewN | apply below_drew1) | exact HB.out)) hb); clear HO253; clear HO255; clear HO259; clear HO263; clear HO266; clear HB; have HO253 := n0_; have HO255 := n1_; have HO259 := n2_; have HO263 := n3_; have HO266 := n4_; have HO270 := n5_; have HB := n6_; clear n0_ n1_ n2_ n3_ n4_ n5_ n6_; (try clear hb); (try clear hb2); (try clear hk); (try clear hi); (try clear ho0); obtain ⟨Ao25, co25, eo25⟩ := Kd.R_slice HO266.out; subst eo25; obtain ⟨Ao26, co26, eo26⟩ := Kd.R_slice HO270.out; subst eo26) | (go_at_call 47; (with_reducible refine (laws_wcInts.calls k _ _ t264 _ _ t268 true _ ?side1 ?side2 ?side3 ?side4 A18.out).mono ?_); (case side1 => repeat (first | exact (Kd.R_reads' HO266.out).2.2 | (with_reducible refine Kd.C_alloc ?_ _) | (with_reducible refine Kd.C_drewN ?_ _) | (with_reducible refine Kd.C_drew ?_))); (case side2 => exact (Kd.R_reads' HO266.out).2.1); (case side3 => repeat (first | exact (Kd.R_reads' HO270.out).2.2 | (with_reducible refine Kd.C_alloc ?_ _) | (with_reducible refine Kd.C_drewN ?_ _) | (with_reducible refine Kd.C_drew ?_))); (case side4 => exact (Kd.R_reads' HO270.out).2.1); rintro e w' ⟨rfl, ⟨nd, rfl⟩⟩) | (go_at_call 49; (with_reducible refine (impl_CubeSize.calls k _ _ t250 t272 _ ?side1 ?side2 A20.out).mono ?_); (case side1 => repeat (first | exact (Kd.R_reads' HO253.out).2.2 | (with_reducible refine Kd.C_alloc ?_ _) | (with_reducible refine Kd.C_drewN ?_ _) | (with_reducible refine Kd.C_drew ?_))); (case side2 => exact (Kd.R_reads' HO253.out).2.1); rintro e w' ⟨rfl, ⟨nd, rfl⟩⟩) | (go_at_call 50; (with_reducible refine (spec_CubeSize.calls k _ _ t250 t273 _ ?side1 ?side2 A21.out).mono ?_); (case side1 => repeat (first | exact (Kd.R_reads' HO253.out).2.2 | (with_reducible refine Kd.C_alloc ?_ _) | (with_reducible refine Kd.C_drewN ?_ _) | (with_reducible refine Kd.C_drew ?_))); (case side2 => exact (Kd.R_reads' HO253.out).2.1); rintro e w' ⟨rfl, ⟨nd, rfl⟩⟩))
            go_meet
            case rel => exact ⟨_, ((t272 != t273)), (by first | rfl | (simp; done) | (simp [*]; done)), H', ⟨by first | omega | exact Nat.le_refl _⟩, ⟨by (with_reducible repeat (first | apply Kd.R_alloc | apply Kd.R_drewN | apply Kd.R_drew)); exact Kd.R_mono HO253.out (fun _ hk => ⟨hk.1.1.1.1, ⟨hk.1.1.1.2, hk.1.2⟩⟩)⟩, ⟨by (with_reducible repeat (first | apply Kd.R_alloc | apply Kd.R_drewN | apply Kd.R_drew)); exact Kd.R_mono HO255.out (fun _ hk => ⟨hk.1.1.1.1, ⟨hk.1.1.1.2, hk.1.2⟩⟩)⟩, ⟨by (with_reducible repeat (first | apply Kd.R_alloc | apply Kd.R_drewN | apply Kd.R_drew)); exact Kd.R_mono HO259.out (fun _ hk => ⟨hk.1.1.1.1.2, ⟨hk.1.1.1.2, hk.1.2⟩⟩)⟩, ⟨by (with_reducible repeat (first | apply Kd.R_alloc | apply Kd.R_drewN | apply Kd.R_drew)); exact Kd.R_mono HO266.out (fun _ hk => ⟨hk.1.1.1.1.2, ⟨hk.1.1.1.2, hk.1.1.2⟩⟩)⟩, ⟨by repeat (first | (with_reducible first | exact HB.out | apply below_alloc | apply pw_below_drewN | apply below_drew1) | exact HB.out)⟩⟩
          · replace c19 := Bool.eq_false_iff.mpr c19
            subst c19
            have H1 : (laws_FnCubeMeet.j0 k t250 t251 t256 t257 t264 true) = some r := by rw [if_neg (show ¬ (false = true) by decide)] at H; exact H
            clear H
            have H := H1
            clear H1
            have H' := Aside0.mk H
            clear H
            obtain ⟨Ao27, co27, eo27⟩ := Kd.R_slice HO259.out
            subst eo27
            obtain ⟨Ao28, co28, eo28⟩ := Kd.R_slice HO263.out
            subst eo28
            go_wp2_with (first | (go_at_call 47; (with_reducible refine (laws_wcInts.calls k _ _ t256 _ _ t260 true _ ?side1 ?side2 ?side3 ?side4 A15.out).mono ?_); (case side1 => repeat (first | exact (Kd.R_reads' HO259.out).2.2 | (with_reducible refine Kd.C_alloc ?_ _) | (with_reducible refine Kd.C_drewN ?_ _) | (with_reducible refine Kd.C_drew ?_))); (case side2 => exact (Kd.R_reads' HO259.out).2.1); (case side3 => repeat (first | exact (Kd.R_reads' HO263.out).2.2 | (with_reducible refine Kd.C_alloc ?_ _) | (with_reducible refine Kd.C_drewN ?_ _) | (with_reducible refine Kd.C_drew ?_))); (case side4 => exact (Kd.R_reads' HO263.out).2.1); rintro e w' ⟨rfl, ⟨nd, rfl⟩⟩) | (go_at_call 48; (with_reducible refine (spec_CubeJoin.calls k _ _ t250 _ _ t251 t268 _ ?side1 ?side2 ?side3 ?side4 A17.out).mono ?_); (case side1 => repeat (first | exact (Kd.R_reads' HO253.out).2.2 | (with_reducible refine Kd.C_alloc ?_ _) | (with_reducible refine Kd.C_drewN ?_ _) | (with_reducible refine Kd.C_drew ?_))); (case side2 => exact (Kd.R_reads' HO253.out).2.1); (case side3 => repeat (first | exact (Kd.R_reads' HO255.out).2.2 | (with_reducible refine Kd.C_alloc ?_ _) | (with_reducible refine Kd.C_drewN ?_ _) | (with_reducible refine Kd.C_drew ?_))); (case side4 => exact (Kd.R_reads' HO255.out).2.1); rintro e w29 ⟨v269, rfl, ho0, hb⟩; have n0_ := Aside0.mk (Kd.R_elder' (by (with_reducible repeat (first | apply Kd.R_alloc | apply Kd.R_drewN | apply Kd.R_drew)); exact HO253.out) (Kd.R_base ho0) hb); have n1_ := Aside0.mk (Kd.R_elder' (by (with_reducible repeat (first | apply Kd.R_alloc | apply Kd.R_drewN | apply Kd.R_drew)); exact HO255.out) (Kd.R_base ho0) hb); have n2_ := Aside0.mk (Kd.R_elder' (by (with_reducible repeat (first | apply Kd.R_alloc | apply Kd.R_drewN | apply Kd.R_drew)); exact HO259.out) (Kd.R_base ho0) hb); have n3_ := Aside0.mk (Kd.R_elder' (by (with_reducible repeat (first | apply Kd.R_alloc | apply Kd.R_drewN | apply Kd.R_drew)); exact HO263.out) (Kd.R_base ho0) hb); have n4_ := Aside0.mk (Kd.R_elder' (by (with_reducible repeat (first | apply Kd.R_alloc | apply Kd.R_drewN | apply Kd.R_drew)); exact HO266.out) (Kd.R_base ho0) hb); have n5_ := Aside0.mk (Kd.R_lower (Kd.R_new' (Kd.R_new' (Kd.R_new' (Kd.R_new' (Kd.R_new' ho0 (Kd.R_lt (by (with_reducible repeat (first | apply Kd.R_alloc | apply Kd.R_drewN | apply Kd.R_drew)); exact HO253.out))) (Kd.R_lt (by (with_reducible repeat (first | apply Kd.R_alloc | apply Kd.R_drewN | apply Kd.R_drew)); exact HO255.out))) (Kd.R_lt (by (with_reducible repeat (first | apply Kd.R_alloc | apply Kd.R_drewN | apply Kd.R_drew)); exact HO259.out))) (Kd.R_lt (by (with_reducible repeat (first | apply Kd.R_alloc | apply Kd.R_drewN | apply Kd.R_drew)); exact HO263.out))) (Kd.R_lt (by (with_reducible repeat (first | apply Kd.R_alloc | apply Kd.R_drewN | apply Kd.R_drew)); exact HO266.out))) (below_size (by repeat (first | (with_reducible first | exact HB.out | apply below_alloc | apply pw_below_drewN | apply below_drew1) | exact HB.out)))); have n6_ := Aside0.mk (below_step (by repeat (first | (with_reducible first | exact HB.out | apply below_alloc | apply pw_below_drewN | apply below_drew1) | exact HB.out)) hb); clear HO253; clear HO255; clear HO259; clear HO263; clear HO266; clear HB; have HO253 := n0_; have HO255 := n1_; have HO259 := n2_; have HO263 := n3_; have HO266 := n4_; have HO270 := n5_; have HB := n6_; clear n0_ n1_ n2_ n3_ n4_ n5_ n6_; (try clear hb); (try clear hb2); (try clear hk); (try clear hi); (try clear ho0); obtain ⟨Ao30, co30, eo30⟩ := Kd.R_slice HO266.out; subst eo30; obtain ⟨Ao31, co31, eo31⟩ := Kd.R_slice HO270.out; subst eo31) | (go_at_call 47; (with_reducible refine (laws_wcInts.calls k _ _ t264 _ _ t268 false _ ?side1 ?side2 ?side3 ?side4 A18.out).mono ?_); (case side1 => repeat (first | exact (Kd.R_reads' HO266.out).2.2 | (with_reducible refine Kd.C_alloc ?_ _) | (with_reducible refine Kd.C_drewN ?_ _) | (with_reducible refine Kd.C_drew ?_))); (case side2 => exact (Kd.R_reads' HO266.out).2.1); (case side3 => repeat (first | exact (Kd.R_reads' HO270.out).2.2 | (with_reducible refine Kd.C_alloc ?_ _) | (with_reducible refine Kd.C_drewN ?_ _) | (with_reducible refine Kd.C_drew ?_))); (case side4 => exact (Kd.R_reads' HO270.out).2.1); rintro e w' ⟨rfl, ⟨nd, rfl⟩⟩))
            go_meet
            case rel => exact ⟨_, (true), (by first | rfl | (simp; done) | (simp [*]; done)), H', ⟨by first | omega | exact Nat.le_refl _⟩, ⟨by (with_reducible repeat (first | apply Kd.R_alloc | apply Kd.R_drewN | apply Kd.R_drew)); exact Kd.R_mono HO253.out (fun _ hk => ⟨hk.1.1.1.1, ⟨hk.1.1.1.2, hk.1.2⟩⟩)⟩, ⟨by (with_reducible repeat (first | apply Kd.R_alloc | apply Kd.R_drewN | apply Kd.R_drew)); exact Kd.R_mono HO255.out (fun _ hk => ⟨hk.1.1.1.1, ⟨hk.1.1.1.2, hk.1.2⟩⟩)⟩, ⟨by (with_reducible repeat (first | apply Kd.R_alloc | apply Kd.R_drewN | apply Kd.R_drew)); exact Kd.R_mono HO259.out (fun _ hk => ⟨hk.1.1.1.1.2, ⟨hk.1.1.1.2, hk.1.2⟩⟩)⟩, ⟨by (with_reducible repeat (first | apply Kd.R_alloc | apply Kd.R_drewN | apply Kd.R_drew)); exact Kd.R_mono HO266.out (fun _ hk => ⟨hk.1.1.1.1.2, ⟨hk.1.1.1.2, hk.1.1.2⟩⟩)⟩, ⟨by repeat (first | (with_reducible first | exact HB.out | apply below_alloc | apply pw_below_drewN | apply below_drew1) | exact HB.out)⟩⟩
        · replace c16 := Bool.eq_false_iff.mpr c16
          subst c16
          have H1 : (laws_FnCubeMeet.j0 k t250 t251 t256 t257 t264 true) = some r := by rw [if_neg (show ¬ (false = true) by decide)] at H; exact H
          clear H
          have H := H1
          clear H1
          have H' := Aside0.mk H
          clear H
          obtain ⟨Ao32, co32, eo32⟩ := Kd.R_slice HO259.out
          subst eo32
          obtain ⟨Ao33, co33, eo33⟩ := Kd.R_slice HO263.out
          subst eo33
          go_wp2_with (first | (go_at_call 47; (with_reducible refine (laws_wcInts.calls k _ _ t256 _ _ t260 false _ ?side1 ?side2 ?side3 ?side4 A15.out).mono ?_); (case side1 => repeat (first | exact (Kd.R_reads' HO259.out).2.2 | (with_reducible refine Kd.C_alloc ?_ _) | (with_reducible refine Kd.C_drewN ?_ _) | (with_reducible refine Kd.C_drew ?_))); (case side2 => exact (Kd.R_reads' HO259.out).2.1); (case side3 => repeat (first | exact (Kd.R_reads' HO263.out).2.2 | (with_reducible refine Kd.C_alloc ?_ _) | (with_reducible refine Kd.C_drewN ?_ _) | (with_reducible refine Kd.C_drew ?_))); (case side4 => exact (Kd.R_reads' HO263.out).2.1); rintro e w' ⟨rfl, ⟨nd, rfl⟩⟩))
          go_meet
          case rel => exact ⟨_, (true), (by first | rfl | (simp; done) | (simp [*]; done)), H', ⟨by first | omega | exact Nat.le_refl _⟩, ⟨by (with_reducible repeat (first | apply Kd.R_alloc | apply Kd.R_drewN | apply Kd.R_drew)); exact Kd.R_mono HO253.out (fun _ hk => ⟨hk.1.1.1, ⟨hk.1.1.2, hk.2⟩⟩)⟩, ⟨by (with_reducible repeat (first | apply Kd.R_alloc | apply Kd.R_drewN | apply Kd.R_drew)); exact Kd.R_mono HO255.out (fun _ hk => ⟨hk.1.1.1, ⟨hk.1.1.2, hk.2⟩⟩)⟩, ⟨by (with_reducible repeat (first | apply Kd.R_alloc | apply Kd.R_drewN | apply Kd.R_drew)); exact Kd.R_mono HO259.out (fun _ hk => ⟨hk.1.1.1.2, ⟨hk.1.1.2, hk.2⟩⟩)⟩, ⟨by (with_reducible repeat (first | apply Kd.R_alloc | apply Kd.R_drewN | apply Kd.R_drew)); exact Kd.R_mono HO266.out (fun _ hk => ⟨hk.1.1.1.2, ⟨hk.1.1.2, hk.1.2⟩⟩)⟩, ⟨by repeat (first | (with_reducible first | exact HB.out | apply below_alloc | apply pw_below_drewN | apply below_drew1) | exact HB.out)⟩⟩
    case rest =>
      clear HC7
      try clear c1
      try clear c2
      try clear c2b0
      try clear c2b1
      try clear p2
      try clear c4
      try clear c8
      try clear c14
      try clear c14b0
      try clear c14b1
      try clear c14b2
      try clear c16
      try clear c19
      obtain ⟨kq, x61_6, rfl, HA, HJ6, HO_3, HO_4, HO_5, HO_9, HB⟩ := hcut
      cases kq with
      | zero => exact absurd HA.out (by simp [laws_FnCubeMeet.j0])
      | succ kj6 =>
        have H := HA.out
        clear HA
        simp only [laws_FnCubeMeet.j0] at H
        by_cases c34 : x61_6 = true
        · subst c34
          have H1 : (some false) = some r := by rw [if_pos rfl] at H; exact H
          clear H
          have H := H1
          clear H1
          obtain rfl := Option.some.inj H
          go_wp2
          go_ret
          exact ⟨by first | rfl | (simp [errW_none, errW_some] <;> rfl) | (simp [*, errW_none, errW_some] <;> rfl), by repeat (first | (with_reducible first | exact HB.out | apply below_alloc | apply pw_below_drewN | apply below_drew1) | exact HB.out)⟩
        · replace c34 := Bool.eq_false_iff.mpr c34
          subst c34
          have H1 : ((impl_CubeSize.f kj6 t250).bind fun t274 => (if t274 < 0 then (laws_FnCubeMeet.j1 kj6 t250 t251 t256 t257 t264 true) else ((impl_CubeValid.f kj6 t251 (t250.length : Int)).bind fun t275 => (laws_FnCubeMeet.j1 kj6 t250 t251 t256 t257 t264 (!t275))))) = some r := by rw [if_neg (show ¬ (false = true) by decide)] at H; exact H
          clear H
          have H := H1
          clear H1
          have HC35 := Aside0.mk H
          clear H
          go_upto_region 9 with (fail)
          go_cut [71] (fun v71 wc => ∃ (kq : Nat) (x71_34 : Bool), v71 = .bool x71_34 ∧ Aside0 (laws_FnCubeMeet.j1 kq t250 t251 t256 t257 t264 x71_34 = some r) ∧ Aside0 (kq ≤ kj6) ∧ Aside0 (Kd.R (Kd.int .i64) 3 wc w.heap.size (fun k_ => some k_ ≠ ((.slice Ao10 t251.length co10) : Value).ownBlock ∧ some k_ ≠ (v258 : Value).ownBlock ∧ some k_ ≠ (v265 : Value).ownBlock) (.slice Ao9 t250.length co9) t250) ∧ Aside0 (Kd.R (Kd.int .i64) 3 wc w.heap.size (fun k_ => some k_ ≠ ((.slice Ao9 t250.length co9) : Value).ownBlock ∧ some k_ ≠ (v258 : Value).ownBlock ∧ some k_ ≠ (v265 : Value).ownBlock) (.slice Ao10 t251.length co10) t251) ∧ Aside0 (Kd.R (Kd.int .i64) 3 wc w.heap.size (fun k_ => some k_ ≠ ((.slice Ao9 t250.length co9) : Value).ownBlock ∧ some k_ ≠ ((.slice Ao10 t251.length co10) : Value).ownBlock ∧ some k_ ≠ (v265 : Value).ownBlock) v258 t256) ∧ Aside0 (Kd.R (Kd.int .i64) 3 wc w.heap.size (fun k_ => some k_ ≠ ((.slice Ao9 t250.length co9) : Value).ownBlock ∧ some k_ ≠ ((.slice Ao10 t251.length co10) : Value).ownBlock ∧ some k_ ≠ (v258 : Value).ownBlock) v265 t264) ∧ Aside0 (Below w.heap.size w wc))
          case first =>
            have H := HC35.out
            clear HC35
            replace H := Option.bind_eq_some_iff.mp H
            obtain ⟨t274, A360, H⟩ := H
            replace H : (if t274 < 0 then (laws_FnCubeMeet.j1 kj6 t250 t251 t256 t257 t264 true) else ((impl_CubeValid.f kj6 t251 (t250.length : Int)).bind fun t275 => (laws_FnCubeMeet.j1 kj6 t250 t251 t256 t257 t264 (!t275)))) = some r := H
            have A36 := Aside0.mk A360
            clear A360
            by_cases c37 : t274 < 0
            · rw [if_pos c37] at H
              have c37b0 : decide (t274 < 0) = true := decide_eq_true c37
              clear c37
              (first | rw [c37b0] | (simp only [i64_w, i32_w]; rw [c37b0]) | rw [c37b1] | simp only [c37b1] | skip)
              have H' := Aside0.mk H
              clear H
              go_wp2_with (first | ((with_reducible refine gate_callee (f := 49) rfl ?_); refine goesL_ (some 63) rfl rfl Try.func49 (by kernel_rfl) rfl #[.slice Ao9 t250.length co9] rfl (by (try simp only [List.map_toArray, List.map_cons, List.map_nil]); first | done | rfl | (simp only [List.length_drop, List.length_take]; rfl)) ?_; (with_reducible refine (impl_CubeSize.calls kj6 _ _ t250 t274 _ ?side1 ?side2 A36.out).mono ?_); (case side1 => repeat (first | exact (Kd.R_reads' HO_3.out).2.2 | (with_reducible refine Kd.C_alloc ?_ _) | (with_reducible refine Kd.C_drewN ?_ _) | (with_reducible refine Kd.C_drew ?_))); (case side2 => exact (Kd.R_reads' HO_3.out).2.1); rintro e w' ⟨rfl, ⟨nd, rfl⟩⟩; refine ⟨_, rfl, ?_⟩))
              go_meet
              case rel => exact ⟨_, (true), (by first | rfl | (simp; done) | (simp [*]; done)), H', ⟨by have := HJ6.out; first | omega | exact Nat.le_refl _⟩, ⟨by (with_reducible repeat (first | apply Kd.R_alloc | apply Kd.R_drewN | apply Kd.R_drew)); exact HO_3.out⟩, ⟨by (with_reducible repeat (first | apply Kd.R_alloc | apply Kd.R_drewN | apply Kd.R_drew)); exact HO_4.out⟩, ⟨by (with_reducible repeat (first | apply Kd.R_alloc | apply Kd.R_drewN | apply Kd.R_drew)); exact HO_5.out⟩, ⟨by (with_reducible repeat (first | apply Kd.R_alloc | apply Kd.R_drewN | apply Kd.R_drew)); exact HO_9.out⟩, ⟨by repeat (first | (with_reducible first | exact HB.out | apply below_alloc | apply pw_below_drewN | apply below_drew1) | exact HB.out)⟩⟩
            · rw [if_neg c37] at H
              have c37b0 : decide (t274 < 0) = false := decide_eq_false c37
              clear c37
              (first | rw [c37b0] | (simp only [i64_w, i32_w]; rw [c37b0]) | rw [c37b1] | simp only [c37b1] | skip)
              replace H := Option.bind_eq_some_iff.mp H
              obtain ⟨t275, A380, H⟩ := H
              replace H : (laws_FnCubeMeet.j1 kj6 t250 t251 t256 t257 t264 (!t275)) = some r := H
              have A38 := Aside0.mk A380
              clear A380
              have H' := Aside0.mk H
              clear H
              go_wp2_with (first | ((with_reducible refine gate_callee (f := 49) rfl ?_); refine goesL_ (some 63) rfl rfl Try.func49 (by kernel_rfl) rfl #[.slice Ao9 t250.length co9] rfl (by (try simp only [List.map_toArray, List.map_cons, List.map_nil]); first | done | rfl | (simp only [List.length_drop, List.length_take]; rfl)) ?_; (with_reducible refine (impl_CubeSize.calls kj6 _ _ t250 t274 _ ?side1 ?side2 A36.out).mono ?_); (case side1 => repeat (first | exact (Kd.R_reads' HO_3.out).2.2 | (with_reducible refine Kd.C_alloc ?_ _) | (with_reducible refine Kd.C_drewN ?_ _) | (with_reducible refine Kd.C_drew ?_))); (case side2 => exact (Kd.R_reads' HO_3.out).2.1); rintro e w' ⟨rfl, ⟨nd, rfl⟩⟩; refine ⟨_, rfl, ?_⟩) | (go_at_call 51; (with_reducible refine (impl_CubeValid.calls kj6 _ _ t251 (t250.length : Int) t275 _ ?side1 ?side2 A38.out).mono ?_); (case side1 => repeat (first | exact (Kd.R_reads' HO_4.out).2.2 | (with_reducible refine Kd.C_alloc ?_ _) | (with_reducible refine Kd.C_drewN ?_ _) | (with_reducible refine Kd.C_drew ?_))); (case side2 => exact (Kd.R_reads' HO_4.out).2.1); rintro e w' ⟨rfl, ⟨nd, rfl⟩⟩))
              go_meet
              case rel => exact ⟨_, (!t275), (by first | rfl | (simp; done) | (simp [*]; done)), H', ⟨by have := HJ6.out; first | omega | exact Nat.le_refl _⟩, ⟨by (with_reducible repeat (first | apply Kd.R_alloc | apply Kd.R_drewN | apply Kd.R_drew)); exact HO_3.out⟩, ⟨by (with_reducible repeat (first | apply Kd.R_alloc | apply Kd.R_drewN | apply Kd.R_drew)); exact HO_4.out⟩, ⟨by (with_reducible repeat (first | apply Kd.R_alloc | apply Kd.R_drewN | apply Kd.R_drew)); exact HO_5.out⟩, ⟨by (with_reducible repeat (first | apply Kd.R_alloc | apply Kd.R_drewN | apply Kd.R_drew)); exact HO_9.out⟩, ⟨by repeat (first | (with_reducible first | exact HB.out | apply below_alloc | apply pw_below_drewN | apply below_drew1) | exact HB.out)⟩⟩
          case rest =>
            clear HC35
            try clear c1
            try clear c2
            try clear c2b0
            try clear c2b1
            try clear p2
            try clear c3
            try clear c4
            try clear c8
            try clear c14
            try clear c14b0
            try clear c14b1
            try clear c14b2
            try clear c16
            try clear c19
            try clear c34
            try clear c37
            try clear c37b0
            try clear c37b1
            try clear p2
            obtain ⟨kq, x71_34, rfl, HA, HJ34, HO_3, HO_4, HO_5, HO_9, HB⟩ := hcut
            cases kq with
            | zero => exact absurd HA.out (by simp [laws_FnCubeMeet.j1])
            | succ kj34 =>
              have H := HA.out
              clear HA
              simp only [laws_FnCubeMeet.j1] at H
              by_cases c39 : x71_34 = true
              · subst c39
                have H1 : (if t257 = true then (some false) else (some ((t264.length : Int) == 0))) = some r := by rw [if_pos rfl] at H; exact H
                clear H
                have H := H1
                clear H1
                by_cases c40 : t257 = true
                · subst c40
                  have H1 : (some false) = some r := by rw [if_pos rfl] at H; exact H
                  clear H
                  have H := H1
                  clear H1
                  obtain rfl := Option.some.inj H
                  go_wp2
                  go_ret
                  exact ⟨by first | rfl | (simp [errW_none, errW_some] <;> rfl) | (simp [*, errW_none, errW_some] <;> rfl), by repeat (first | (with_reducible first | exact HB.out | apply below_alloc | apply pw_below_drewN | apply below_drew1) | exact HB.out)⟩
                · replace c40 := Bool.eq_false_iff.mpr c40
                  subst c40
                  have H1 : (some ((t264.length : Int) == 0)) = some r := by rw [if_neg (show ¬ (false = true) by decide)] at H; exact H
                  clear H
                  have H := H1
                  clear H1
                  obtain rfl := Option.some.inj H
                  obtain ⟨Ao41, co41, eo41⟩ := Kd.R_slice HO_9.out
                  subst eo41
                  go_wp2
                  go_ret
                  exact ⟨by first | rfl | (simp [errW_none, errW_some] <;> rfl) | (simp [*, errW_none, errW_some] <;> rfl), by repeat (first | (with_reducible first | exact HB.out | apply below_alloc | apply pw_below_drewN | apply below_drew1) | exact HB.out)⟩
              · replace c39 := Bool.eq_false_iff.mpr c39
                subst c39
                have H1 : (laws_FnCubeMeet.l0 kj34 t250 t251 t256 t257 t264 (shl .i64 1 (t250.length : Int)) 0) = some r := by rw [if_neg (show ¬ (false = true) by decide)] at H; exact H
                clear H
                have H := H1
                clear H1
                obtain ⟨ji42, hji42⟩ : ∃ j_ : Int, (shl .i64 1 (t250.length : Int)) = j_ := ⟨_, rfl⟩
                replace H : (laws_FnCubeMeet.l0 kj34 t250 t251 t256 t257 t264 ji42 0) = some r := by first | (rw [hji42] at H; exact H) | (simp only [hji42] at H ⊢; exact H)
                have hji42_ : (IntKind.i64.wrap (1 * 2 ^ min (t250.length : Int).toNat 64)) = ji42 := hji42
                have hji42z : (t250.length : Int) ≤ 64 → (IntKind.i64.wrap (1 * 2 ^ (t250.length : Int).toNat)) = ji42 := shl_small hji42
                have hji42p : (IntKind.i64.wrap (1 * 2 ^ min t250.length 64)) = ji42 := hji42_
                have hji42q : (t250.length : Int) ≤ 64 → (IntKind.i64.wrap (1 * 2 ^ t250.length)) = ji42 := hji42z
                have hji42r : (IntKind.i64.wrap (2 ^ min t250.length 64)) = ji42 := by have h_ := hji42p; rw [Int.one_mul] at h_; exact h_
                have hji42s : (t250.length : Int) ≤ 64 → (IntKind.i64.wrap (2 ^ t250.length)) = ji42 := fun hle_ => by have h_ := hji42q hle_; rw [Int.one_mul] at h_; exact h_
                have hji42u : (IntKind.i64.wrap (2 ^ min (t250.length : Int).toNat 64)) = ji42 := by have h_ := hji42_; rw [Int.one_mul] at h_; exact h_
                have hji42v : (t250.length : Int) ≤ 64 → (IntKind.i64.wrap (2 ^ (t250.length : Int).toNat)) = ji42 := fun hle_ => by have h_ := hji42z hle_; rw [Int.one_mul] at h_; exact h_
                have hji42y : (wrap64 (1 * 2 ^ min (t250.length : Int).toNat 64)) = ji42 := (i64_w _).symm.trans hji42_
                have hji42x : (t250.length : Int) ≤ 64 → (wrap64 (1 * 2 ^ (t250.length : Int).toNat)) = ji42 := fun h_ => (i64_w _).symm.trans (hji42z h_)
                have H' := Aside0.mk H
                clear H
                go_wp2
                go_loopg [82] kj34 (fun kq v82 w' => ∃ (x82_3 : Int), v82 = .int .i64 x82_3 ∧ Aside0 (laws_FnCubeMeet.l0 kq t250 t251 t256 t257 t264 ji42 x82_3 = some r) ∧ Aside0 (kq ≤ kj34) ∧ Aside0 (Kd.R (Kd.int .i64) 3 w' w.heap.size (fun k_ => some k_ ≠ ((.slice Ao10 t251.length co10) : Value).ownBlock ∧ some k_ ≠ (v258 : Value).ownBlock ∧ some k_ ≠ (v265 : Value).ownBlock) (.slice Ao9 t250.length co9) t250) ∧ Aside0 (Kd.R (Kd.int .i64) 3 w' w.heap.size (fun k_ => some k_ ≠ ((.slice Ao9 t250.length co9) : Value).ownBlock ∧ some k_ ≠ (v258 : Value).ownBlock ∧ some k_ ≠ (v265 : Value).ownBlock) (.slice Ao10 t251.length co10) t251) ∧ Aside0 (Kd.R (Kd.int .i64) 3 w' w.heap.size (fun k_ => some k_ ≠ ((.slice Ao9 t250.length co9) : Value).ownBlock ∧ some k_ ≠ ((.slice Ao10 t251.length co10) : Value).ownBlock ∧ some k_ ≠ (v265 : Value).ownBlock) v258 t256) ∧ Aside0 (Kd.R (Kd.int .i64) 3 w' w.heap.size (fun k_ => some k_ ≠ ((.slice Ao9 t250.length co9) : Value).ownBlock ∧ some k_ ≠ ((.slice Ao10 t251.length co10) : Value).ownBlock ∧ some k_ ≠ (v258 : Value).ownBlock) v265 t264) ∧ Aside0 (Below w.heap.size w w'))
                case atStart => exact ⟨(0), (by first | rfl | (simp; done) | (simp [*]; done)), H', ⟨Nat.le_refl _⟩, ⟨by (with_reducible repeat (first | apply Kd.R_alloc | apply Kd.R_drewN | apply Kd.R_drew)); exact HO_3.out⟩, ⟨by (with_reducible repeat (first | apply Kd.R_alloc | apply Kd.R_drewN | apply Kd.R_drew)); exact HO_4.out⟩, ⟨by (with_reducible repeat (first | apply Kd.R_alloc | apply Kd.R_drewN | apply Kd.R_drew)); exact HO_5.out⟩, ⟨by (with_reducible repeat (first | apply Kd.R_alloc | apply Kd.R_drewN | apply Kd.R_drew)); exact HO_9.out⟩, ⟨by repeat (first | (with_reducible first | exact HB.out | apply below_alloc | apply pw_below_drewN | apply below_drew1) | exact HB.out)⟩⟩
                case round =>
                  clear H'
                  try clear c1
                  try clear c2
                  try clear c2b0
                  try clear c2b1
                  try clear p2
                  try clear c3
                  try clear c4
                  try clear p6
                  try clear c8
                  try clear c14
                  try clear c14b0
                  try clear c14b1
                  try clear c14b2
                  try clear c16
                  try clear c19
                  try clear c34
                  try clear c37
                  try clear c37b0
                  try clear c37b1
                  try clear c39
                  try clear c40
                  try clear p2
                  obtain ⟨x82_3, rfl, HA, HK3, HO_3, HO_4, HO_5, HO_9, HB⟩ := hrel
                  cases gk with
                  | zero => exact absurd HA.out (by simp [laws_FnCubeMeet.l0])
                  | succ k3 =>
                    have H := HA.out
                    clear HA
                    simp only [laws_FnCubeMeet.l0] at H
                    by_cases c43 : x82_3 < ji42
                    · rw [if_pos c43] at H
                      have c43b0 : decide (x82_3 < ji42) = true := decide_eq_true c43
                      clear c43
                      obtain ⟨y279, hy279⟩ : ∃ y_ : List Int, y_ = (([] : List Int)) := ⟨_, rfl⟩
                      replace H : (laws_FnCubeMeet.l1 k3 t250 t251 t256 t257 t264 x82_3 y279 ji42 x82_3 (t250.length : Int) 0) = some r := by first | (rw [hy279]; with_reducible exact H) | (have H2_ := (Option.bind_some _ _).symm.trans H; rw [hy279]; with_reducible exact H2_) | (have H2_ := (Option.bind_some _ _).symm.trans H; with_reducible exact H2_) | with_reducible exact H | (rw [hy279]; exact H) | exact H
                      have Ny279 := Aside0.mk hy279
                      clear hy279
                      have H' := Aside0.mk H
                      clear H
                      go_wp2_with (first | ((with_reducible refine gate_dst (N := 85) rfl ?_); (try (refine gate_guard (by rfl) ?_; dsimp only)); refine Kd.R_lit (Kd.int .i64) _ 3 ?hg (N := 85) ?hd (xs := ([] : List Int)) (inner := []) (ok := fun _ => True) (okp := fun _ => True) ?hr ?hp (fun _ hk => hk) trivial (Below.refl _ _) (Nat.le_refl _) (by simp) ?_; (case hd => rfl); (case hg => rfl); (case hr => first | (go_simp; done) | (go_simp; rfl)); (case hp => exact (Reps.none _ _)); intro v280 w44 ho45 hb hg_ hnew_; clear hg_ hnew_; (first | rw [← Ny279.out] at ho45 | (simp only [Int.reduceToNat] at ho45; rw [← Ny279.out] at ho45)); have n0_ := Aside0.mk (Kd.R_elder' (by (with_reducible repeat (first | apply Kd.R_alloc | apply Kd.R_drewN | apply Kd.R_drew)); exact HO_3.out) (Kd.R_base ho45) hb); have n1_ := Aside0.mk (Kd.R_elder' (by (with_reducible repeat (first | apply Kd.R_alloc | apply Kd.R_drewN | apply Kd.R_drew)); exact HO_4.out) (Kd.R_base ho45) hb); have n2_ := Aside0.mk (Kd.R_elder' (by (with_reducible repeat (first | apply Kd.R_alloc | apply Kd.R_drewN | apply Kd.R_drew)); exact HO_5.out) (Kd.R_base ho45) hb); have n3_ := Aside0.mk (Kd.R_elder' (by (with_reducible repeat (first | apply Kd.R_alloc | apply Kd.R_drewN | apply Kd.R_drew)); exact HO_9.out) (Kd.R_base ho45) hb); have n4_ := Aside0.mk (Kd.R_lower (Kd.R_new' (Kd.R_new' (Kd.R_new' (Kd.R_new' ho45 (Kd.R_lt (by (with_reducible repeat (first | apply Kd.R_alloc | apply Kd.R_drewN | apply Kd.R_drew)); exact HO_3.out))) (Kd.R_lt (by (with_reducible repeat (first | apply Kd.R_alloc | apply Kd.R_drewN | apply Kd.R_drew)); exact HO_4.out))) (Kd.R_lt (by (with_reducible repeat (first | apply Kd.R_alloc | apply Kd.R_drewN | apply Kd.R_drew)); exact HO_5.out))) (Kd.R_lt (by (with_reducible repeat (first | apply Kd.R_alloc | apply Kd.R_drewN | apply Kd.R_drew)); exact HO_9.out))) (below_size (by repeat (first | (with_reducible first | exact HB.out | apply below_alloc | apply pw_below_drewN | apply below_drew1) | exact HB.out)))); have n5_ := Aside0.mk (below_step (by repeat (first | (with_reducible first | exact HB.out | apply below_alloc | apply pw_below_drewN | apply below_drew1) | exact HB.out)) hb); clear HO_3; clear HO_4; clear HO_5; clear HO_9; clear HB; have HO_3 := n0_; have HO_4 := n1_; have HO_5 := n2_; have HO_9 := n3_; have HO281 := n4_; have HB := n5_; clear n0_ n1_ n2_ n3_ n4_ n5_; clear hb ho45))
                      go_loopg [11, 88] k3 (fun kq v11 v88 w' => ∃ (x11_4 : List Int) (x88_4 : Int), v88 = .int .i64 x88_4 ∧ Aside0 (laws_FnCubeMeet.l1 kq t250 t251 t256 t257 t264 x82_3 x11_4 ji42 x82_3 (t250.length : Int) x88_4 = some r) ∧ Aside0 (kq ≤ k3) ∧ Aside0 (Kd.R (Kd.int .i64) 3 w' w.heap.size (fun k_ => some k_ ≠ ((.slice Ao10 t251.length co10) : Value).ownBlock ∧ some k_ ≠ (v258 : Value).ownBlock ∧ some k_ ≠ (v265 : Value).ownBlock ∧ some k_ ≠ (v11 : Value).ownBlock) (.slice Ao9 t250.length co9) t250) ∧ Aside0 (Kd.R (Kd.int .i64) 3 w' w.heap.size (fun k_ => some k_ ≠ ((.slice Ao9 t250.length co9) : Value).ownBlock ∧ some k_ ≠ (v258 : Value).ownBlock ∧ some k_ ≠ (v265 : Value).ownBlock ∧ some k_ ≠ (v11 : Value).ownBlock) (.slice Ao10 t251.length co10) t251) ∧ Aside0 (Kd.R (Kd.int .i64) 3 w' w.heap.size (fun k_ => some k_ ≠ ((.slice Ao9 t250.length co9) : Value).ownBlock ∧ some k_ ≠ ((.slice Ao10 t251.length co10) : Value).ownBlock ∧ some k_ ≠ (v265 : Value).ownBlock ∧ some k_ ≠ (v11 : Value).ownBlock) v258 t256) ∧ Aside0 (Kd.R (Kd.int .i64) 3 w' w.heap.size (fun k_ => some k_ ≠ ((.slice Ao9 t250.length co9) : Value).ownBlock ∧ some k_ ≠ ((.slice Ao10 t251.length co10) : Value).ownBlock ∧ some k_ ≠ (v258 : Value).ownBlock ∧ some k_ ≠ (v11 : Value).ownBlock) v265 t264) ∧ Aside0 (Kd.R (Kd.int .i64) 3 w' w.heap.size (fun k_ => some k_ ≠ ((.slice Ao9 t250.length co9) : Value).ownBlock ∧ some k_ ≠ ((.slice Ao10 t251.length co10) : Value).ownBlock ∧ some k_ ≠ (v258 : Value).ownBlock ∧ some k_ ≠ (v265 : Value).ownBlock) v11 x11_4) ∧ Aside0 (Below w.heap.size w w'))
                      case atStart => exact ⟨(y279), (0), (by first | rfl | (simp; done) | (simp [*]; done)), H', ⟨Nat.le_refl _⟩, ⟨by (with_reducible repeat (first | apply Kd.R_alloc | apply Kd.R_drewN | apply Kd.R_drew)); exact Kd.R_mono HO_3.out (fun _ hk => ⟨hk.1.1, ⟨hk.1.2.1, ⟨hk.1.2.2, hk.2⟩⟩⟩)⟩, ⟨by (with_reducible repeat (first | apply Kd.R_alloc | apply Kd.R_drewN | apply Kd.R_drew)); exact Kd.R_mono HO_4.out (fun _ hk => ⟨hk.1.1, ⟨hk.1.2.1, ⟨hk.1.2.2, hk.2⟩⟩⟩)⟩, ⟨by (with_reducible repeat (first | apply Kd.R_alloc | apply Kd.R_drewN | apply Kd.R_drew)); exact Kd.R_mono HO_5.out (fun _ hk => ⟨hk.1.1, ⟨hk.1.2.1, ⟨hk.1.2.2, hk.2⟩⟩⟩)⟩, ⟨by (with_reducible repeat (first | apply Kd.R_alloc | apply Kd.R_drewN | apply Kd.R_drew)); exact Kd.R_mono HO_9.out (fun _ hk => ⟨hk.1.1, ⟨hk.1.2.1, ⟨hk.1.2.2, hk.2⟩⟩⟩)⟩, ⟨by (with_reducible repeat (first | apply Kd.R_alloc | apply Kd.R_drewN | apply Kd.R_drew)); exact Kd.R_mono HO281.out (fun _ hk => ⟨hk.1.1.1.2, ⟨hk.1.1.2, ⟨hk.1.2, hk.2⟩⟩⟩)⟩, ⟨by repeat (first | (with_reducible first | exact HB.out | apply below_alloc | apply pw_below_drewN | apply below_drew1) | exact HB.out)⟩⟩
                      case round =>
                        clear H'
                        try clear c1
                        try clear c2
                        try clear c2b0
                        try clear c2b1
                        try clear p2
                        try clear c3
                        try clear c4
                        try clear p6
                        try clear c8
                        try clear c14
                        try clear c14b0
                        try clear c14b1
                        try clear c14b2
                        try clear c16
                        try clear c19
                        try clear c34
                        try clear c37
                        try clear c37b0
                        try clear c37b1
                        try clear c39
                        try clear c40
                        try clear c43
                        try clear c43b0
                        try clear c44
                        try clear c45
                        try clear p2
                        try clear p6
                        obtain ⟨x11_4, x88_4, rfl, HA, HK4, HO_3, HO_4, HO_5, HO_9, HO_11, HB⟩ := hrel
                        cases gk with
                        | zero => exact absurd HA.out (by simp [laws_FnCubeMeet.l1])
                        | succ k4 =>
                          have H := HA.out
                          clear HA
                          simp only [laws_FnCubeMeet.l1] at H
                          by_cases c46 : x88_4 < (t250.length : Int)
                          · rw [if_pos c46] at H
                            have c46b0 : decide (x88_4 < (t250.length : Int)) = true := decide_eq_true c46
                            clear c46
                            by_cases c47 : 0 ≤ x88_4
                            · rw [if_pos c47] at H
                              have c47b0 := eq_true c47
                              have c47b1 : decide (0 ≤ x88_4) = true := decide_eq_true c47
                              clear c47
                              obtain ⟨ji48, hji48⟩ : ∃ j_ : Int, (shr .i64 x82_3 x88_4) = j_ := ⟨_, rfl⟩
                              replace H : (if x11_4.length < 17592186044416 then (laws_FnCubeMeet.l1 k4 t250 t251 t256 t257 t264 x82_3 (x11_4 ++ [Int.tmod (ji48) 2]) ji42 x82_3 (t250.length : Int) (wrap64 (x88_4 + 1))) else (none)) = some r := by first | (rw [hji48] at H; exact H) | (simp only [hji48] at H ⊢; exact H)
                              have hji48_ : (x82_3 / 2 ^ min x88_4.toNat 64) = ji48 := hji48
                              have hji48z : x88_4 ≤ 64 → (x82_3 / 2 ^ x88_4.toNat) = ji48 := shr_small hji48
                              by_cases c49 : x11_4.length < 17592186044416
                              · rw [if_pos c49] at H
                                have LMc49 := Aside0.mk c49
                                clear c49
                                obtain ⟨y282, hy282⟩ : ∃ y_ : List Int, y_ = (x11_4 ++ [Int.tmod (ji48) 2]) := ⟨_, rfl⟩
                                replace H : (laws_FnCubeMeet.l1 k4 t250 t251 t256 t257 t264 x82_3 y282 ji42 x82_3 (t250.length : Int) (wrap64 (x88_4 + 1))) = some r := by first | (rw [hy282]; with_reducible exact H) | (have H2_ := (Option.bind_some _ _).symm.trans H; rw [hy282]; with_reducible exact H2_) | (have H2_ := (Option.bind_some _ _).symm.trans H; with_reducible exact H2_) | with_reducible exact H | (rw [hy282]; exact H) | exact H
                                have Ny282 := Aside0.mk hy282
                                clear hy282
                                have H' := Aside0.mk H
                                clear H
                                go_wp2_with (first | ((with_reducible refine gate_builtin (b := .append) (xs := #[.tmp 91, .tmp 96]) rfl ?_); (try (refine gate_guard (by rfl) ?_; dsimp only)); at_builtin; refine Kd.R_append (Kd.int .i64) (w0 := w) w.heap.size rfl (.tmp 91) (.tmp 96) 35 3 (.int .i64 0) 8 rfl Try.underlying35 info3 rfl (by decide) (by omega) u11 x11_4 (Int.tmod (ji48) 2) [.int .i64 (Int.tmod (ji48) 2)] (fun k_ => some k_ ≠ (.slice Ao9 t250.length co9 : Value).ownBlock ∧ some k_ ≠ (.slice Ao10 t251.length co10 : Value).ownBlock ∧ some k_ ≠ (v258 : Value).ownBlock ∧ some k_ ≠ (v265 : Value).ownBlock) (fun _ => False) rfl rfl ?aP (fun _ hk => hk.elim) ?aF ?aO ?aB ?aS ?aL ?_; (case aP => exact rfl); (case aB => exact (by repeat (first | (with_reducible first | exact HB.out | apply below_alloc | apply pw_below_drewN | apply below_drew1) | exact HB.out))); (case aF => exact (fun k_ hk => ⟨Kd.fresh' (Kd.R_lt (by (with_reducible repeat (first | apply Kd.R_alloc | apply Kd.R_drewN | apply Kd.R_drew)); exact HO_3.out)) k_ hk, Kd.fresh' (Kd.R_lt (by (with_reducible repeat (first | apply Kd.R_alloc | apply Kd.R_drewN | apply Kd.R_drew)); exact HO_4.out)) k_ hk, Kd.fresh' (Kd.R_lt (by (with_reducible repeat (first | apply Kd.R_alloc | apply Kd.R_drewN | apply Kd.R_drew)); exact HO_5.out)) k_ hk, Kd.fresh' (Kd.R_lt (by (with_reducible repeat (first | apply Kd.R_alloc | apply Kd.R_drewN | apply Kd.R_drew)); exact HO_9.out)) k_ hk⟩)); (case aO => exact (by (with_reducible repeat (first | apply Kd.R_alloc | apply Kd.R_drewN | apply Kd.R_drew)); exact HO_11.out)); (case aS => exact (below_size (by repeat (first | (with_reducible first | exact HB.out | apply below_alloc | apply pw_below_drewN | apply below_drew1) | exact HB.out)))); (case aL => have := LMc49.out; omega); intro v283 w50 ho hb hg hat; rw [← Ny282.out] at ho; have n0_ := Aside0.mk (Kd.R_after (ok := (fun k_ => some k_ ≠ (.slice Ao10 t251.length co10 : Value).ownBlock ∧ some k_ ≠ (v258 : Value).ownBlock ∧ some k_ ≠ (v265 : Value).ownBlock)) (by (with_reducible repeat (first | apply Kd.R_alloc | apply Kd.R_drewN | apply Kd.R_drew)); exact Kd.R_mono HO_3.out (fun _ hk => ⟨⟨hk.1, ⟨hk.2.1, hk.2.2.1⟩⟩, hk.2.2.2⟩)) hg hat); have n1_ := Aside0.mk (Kd.R_after (ok := (fun k_ => some k_ ≠ (.slice Ao9 t250.length co9 : Value).ownBlock ∧ some k_ ≠ (v258 : Value).ownBlock ∧ some k_ ≠ (v265 : Value).ownBlock)) (by (with_reducible repeat (first | apply Kd.R_alloc | apply Kd.R_drewN | apply Kd.R_drew)); exact Kd.R_mono HO_4.out (fun _ hk => ⟨⟨hk.1, ⟨hk.2.1, hk.2.2.1⟩⟩, hk.2.2.2⟩)) hg hat); have n2_ := Aside0.mk (Kd.R_after (ok := (fun k_ => some k_ ≠ (.slice Ao9 t250.length co9 : Value).ownBlock ∧ some k_ ≠ (.slice Ao10 t251.length co10 : Value).ownBlock ∧ some k_ ≠ (v265 : Value).ownBlock)) (by (with_reducible repeat (first | apply Kd.R_alloc | apply Kd.R_drewN | apply Kd.R_drew)); exact Kd.R_mono HO_5.out (fun _ hk => ⟨⟨hk.1, ⟨hk.2.1, hk.2.2.1⟩⟩, hk.2.2.2⟩)) hg hat); have n3_ := Aside0.mk (Kd.R_after (ok := (fun k_ => some k_ ≠ (.slice Ao9 t250.length co9 : Value).ownBlock ∧ some k_ ≠ (.slice Ao10 t251.length co10 : Value).ownBlock ∧ some k_ ≠ (v258 : Value).ownBlock)) (by (with_reducible repeat (first | apply Kd.R_alloc | apply Kd.R_drewN | apply Kd.R_drew)); exact Kd.R_mono HO_9.out (fun _ hk => ⟨⟨hk.1, ⟨hk.2.1, hk.2.2.1⟩⟩, hk.2.2.2⟩)) hg hat); have n4_ := Aside0.mk (hb); have n5_ := Aside0.mk (ho); clear HO_3; clear HO_4; clear HO_5; clear HO_9; clear HB; clear HO_11; have HO_3 := n0_; have HO_4 := n1_; have HO_5 := n2_; have HO_9 := n3_; have HB := n4_; have HO284 := n5_; clear n0_ n1_ n2_ n3_ n4_ n5_; clear ho hb hg hat))
                                go_roundg k4
                                case measure => have := HJ6.out; have := HJ34.out; have := HK3.out; have := HK4.out; omega
                                case rel => exact ⟨(y282), (wrap64 (x88_4 + 1)), (by first | rfl | (simp; done) | (simp [*]; done)), H', ⟨by have := HJ6.out; have := HJ34.out; have := HK3.out; have := HK4.out; omega⟩, ⟨by (with_reducible repeat (first | apply Kd.R_alloc | apply Kd.R_drewN | apply Kd.R_drew)); exact Kd.R_mono HO_3.out (fun _ hk => ⟨hk.1.1, ⟨hk.1.2.1, ⟨hk.1.2.2, hk.2⟩⟩⟩)⟩, ⟨by (with_reducible repeat (first | apply Kd.R_alloc | apply Kd.R_drewN | apply Kd.R_drew)); exact Kd.R_mono HO_4.out (fun _ hk => ⟨hk.1.1, ⟨hk.1.2.1, ⟨hk.1.2.2, hk.2⟩⟩⟩)⟩, ⟨by (with_reducible repeat (first | apply Kd.R_alloc | apply Kd.R_drewN | apply Kd.R_drew)); exact Kd.R_mono HO_5.out (fun _ hk => ⟨hk.1.1, ⟨hk.1.2.1, ⟨hk.1.2.2, hk.2⟩⟩⟩)⟩, ⟨by (with_reducible repeat (first | apply Kd.R_alloc | apply Kd.R_drewN | apply Kd.R_drew)); exact Kd.R_mono HO_9.out (fun _ hk => ⟨hk.1.1, ⟨hk.1.2.1, ⟨hk.1.2.2, hk.2⟩⟩⟩)⟩, ⟨by (with_reducible repeat (first | apply Kd.R_alloc | apply Kd.R_drewN | apply Kd.R_drew)); exact HO284.out⟩, ⟨by repeat (first | (with_reducible first | exact HB.out | apply below_alloc | apply pw_below_drewN | apply below_drew1) | exact HB.out)⟩⟩
                              · rw [if_neg c49] at H
                                exact absurd H (by simp)
                            · rw [if_neg c47] at H
                              exact absurd H (by simp)
                          · rw [if_neg c46] at H
                            have c46b0 : decide (x88_4 < (t250.length : Int)) = false := decide_eq_false c46
                            clear c46
                            replace H := Option.bind_eq_some_iff.mp H
                            obtain ⟨t285, A510, H⟩ := H
                            replace H : ((impl_CubeHas.f k4 t251 x11_4).bind fun t286 => (if t257 = true then ((impl_CubeHas.f k4 t256 x11_4).bind fun t287 => (if t285 = true then (if (t287 != t286) = true then (some false) else ((impl_CubeHas.f k4 t264 x11_4).bind fun t288 => (if t288 = true then (laws_FnCubeMeet.l0 k4 t250 t251 t256 t257 t264 ji42 (wrap64 (x82_3 + 1))) else (some false)))) else (if (t287 != false) = true then (some false) else (if t286 = true then ((impl_CubeHas.f k4 t264 x11_4).bind fun t289 => (if t289 = true then (laws_FnCubeMeet.l0 k4 t250 t251 t256 t257 t264 ji42 (wrap64 (x82_3 + 1))) else (some false))) else (laws_FnCubeMeet.l0 k4 t250 t251 t256 t257 t264 ji42 (wrap64 (x82_3 + 1))))))) else (if t285 = true then (if (false != t286) = true then (some false) else ((impl_CubeHas.f k4 t264 x11_4).bind fun t290 => (if t290 = true then (laws_FnCubeMeet.l0 k4 t250 t251 t256 t257 t264 ji42 (wrap64 (x82_3 + 1))) else (some false)))) else (if (false != false) = true then (some false) else (if t286 = true then ((impl_CubeHas.f k4 t264 x11_4).bind fun t291 => (if t291 = true then (laws_FnCubeMeet.l0 k4 t250 t251 t256 t257 t264 ji42 (wrap64 (x82_3 + 1))) else (some false))) else (laws_FnCubeMeet.l0 k4 t250 t251 t256 t257 t264 ji42 (wrap64 (x82_3 + 1)))))))) = some r := H
                            have A51 := Aside0.mk A510
                            clear A510
                            replace H := Option.bind_eq_some_iff.mp H
                            obtain ⟨t286, A520, H⟩ := H
                            replace H : (if t257 = true then ((impl_CubeHas.f k4 t256 x11_4).bind fun t287 => (if t285 = true then (if (t287 != t286) = true then (some false) else ((impl_CubeHas.f k4 t264 x11_4).bind fun t288 => (if t288 = true then (laws_FnCubeMeet.l0 k4 t250 t251 t256 t257 t264 ji42 (wrap64 (x82_3 + 1))) else (some false)))) else (if (t287 != false) = true then (some false) else (if t286 = true then ((impl_CubeHas.f k4 t264 x11_4).bind fun t289 => (if t289 = true then (laws_FnCubeMeet.l0 k4 t250 t251 t256 t257 t264 ji42 (wrap64 (x82_3 + 1))) else (some false))) else (laws_FnCubeMeet.l0 k4 t250 t251 t256 t257 t264 ji42 (wrap64 (x82_3 + 1))))))) else (if t285 = true then (if (false != t286) = true then (some false) else ((impl_CubeHas.f k4 t264 x11_4).bind fun t290 => (if t290 = true then (laws_FnCubeMeet.l0 k4 t250 t251 t256 t257 t264 ji42 (wrap64 (x82_3 + 1))) else (some false)))) else (if (false != false) = true then (some false) else (if t286 = true then ((impl_CubeHas.f k4 t264 x11_4).bind fun t291 => (if t291 = true then (laws_FnCubeMeet.l0 k4 t250 t251 t256 t257 t264 ji42 (wrap64 (x82_3 + 1))) else (some false))) else (laws_FnCubeMeet.l0 k4 t250 t251 t256 t257 t264 ji42 (wrap64 (x82_3 + 1))))))) = some r := H
                            have A52 := Aside0.mk A520
                            clear A520
                            by_cases c53 : t257 = true
                            · subst c53
                              have H1 : ((impl_CubeHas.f k4 t256 x11_4).bind fun t287 => (if t285 = true then (if (t287 != t286) = true then (some false) else ((impl_CubeHas.f k4 t264 x11_4).bind fun t288 => (if t288 = true then (laws_FnCubeMeet.l0 k4 t250 t251 t256 true t264 ji42 (wrap64 (x82_3 + 1))) else (some false)))) else (if (t287 != false) = true then (some false) else (if t286 = true then ((impl_CubeHas.f k4 t264 x11_4).bind fun t289 => (if t289 = true then (laws_FnCubeMeet.l0 k4 t250 t251 t256 true t264 ji42 (wrap64 (x82_3 + 1))) else (some false))) else (laws_FnCubeMeet.l0 k4 t250 t251 t256 true t264 ji42 (wrap64 (x82_3 + 1))))))) = some r := by rw [if_pos rfl] at H; exact H
                              clear H
                              have H := H1
                              clear H1
                              replace H := Option.bind_eq_some_iff.mp H
                              obtain ⟨t287, A540, H⟩ := H
                              replace H : (if t285 = true then (if (t287 != t286) = true then (some false) else ((impl_CubeHas.f k4 t264 x11_4).bind fun t288 => (if t288 = true then (laws_FnCubeMeet.l0 k4 t250 t251 t256 true t264 ji42 (wrap64 (x82_3 + 1))) else (some false)))) else (if (t287 != false) = true then (some false) else (if t286 = true then ((impl_CubeHas.f k4 t264 x11_4).bind fun t289 => (if t289 = true then (laws_FnCubeMeet.l0 k4 t250 t251 t256 true t264 ji42 (wrap64 (x82_3 + 1))) else (some false))) else (laws_FnCubeMeet.l0 k4 t250 t251 t256 true t264 ji42 (wrap64 (x82_3 + 1)))))) = some r := H
                              have A54 := Aside0.mk A540
                              clear A540
                              by_cases c55 : t285 = true
                              · subst c55
                                have H1 : (if (t287 != t286) = true then (some false) else ((impl_CubeHas.f k4 t264 x11_4).bind fun t288 => (if t288 = true then (laws_FnCubeMeet.l0 k4 t250 t251 t256 true t264 ji42 (wrap64 (x82_3 + 1))) else (some false)))) = some r := by rw [if_pos rfl] at H; exact H
                                clear H
                                have H := H1
                                clear H1
                                by_cases c56 : (t287 != t286) = true
                                · rw [if_pos c56] at H
                                  have c56b0 : (t287 != t286) = true := c56
                                  (try (have c56b1 : decide (t287 = t286) = false := by first | (exfalso; simp at c56; done) | simpa using c56))
                                  (try (have c56b2 : (t287 == t286) = false := by first | (exfalso; simp at c56; done) | simpa using c56))
                                  (try (have c56b3 : ¬ (t287 = t286) := by first | (exfalso; simp at c56; done) | simpa using c56))
                                  clear c56
                                  obtain rfl := Option.some.inj H
                                  obtain ⟨Ao57, co57, eo57⟩ := Kd.R_slice HO_11.out
                                  subst eo57
                                  go_wp2_with (first | ((with_reducible refine gate_callee (f := 52) rfl ?_); refine goesL_ (some 101) rfl rfl Try.func52 (by kernel_rfl) rfl #[.slice Ao9 t250.length co9, .slice Ao57 x11_4.length co57] rfl (by (try simp only [List.map_toArray, List.map_cons, List.map_nil]); first | done | rfl | (simp only [List.length_drop, List.length_take]; rfl)) ?_; (with_reducible refine (impl_CubeHas.calls k4 _ _ t250 _ _ x11_4 true _ ?side1 ?side2 ?side3 ?side4 A51.out).mono ?_); (case side1 => repeat (first | exact (Kd.R_reads' HO_3.out).2.2 | (with_reducible refine Kd.C_alloc ?_ _) | (with_reducible refine Kd.C_drewN ?_ _) | (with_reducible refine Kd.C_drew ?_))); (case side2 => exact (Kd.R_reads' HO_3.out).2.1); (case side3 => repeat (first | exact (Kd.R_reads' HO_11.out).2.2 | (with_reducible refine Kd.C_alloc ?_ _) | (with_reducible refine Kd.C_drewN ?_ _) | (with_reducible refine Kd.C_drew ?_))); (case side4 => exact (Kd.R_reads' HO_11.out).2.1); rintro e w' ⟨rfl, ⟨nd, rfl⟩⟩; refine ⟨_, rfl, ?_⟩) | ((with_reducible refine gate_callee (f := 52) rfl ?_); refine goesL_ (some 104) rfl rfl Try.func52 (by kernel_rfl) rfl #[.slice Ao10 t251.length co10, .slice Ao57 x11_4.length co57] rfl (by (try simp only [List.map_toArray, List.map_cons, List.map_nil]); first | done | rfl | (simp only [List.length_drop, List.length_take]; rfl)) ?_; (with_reducible refine (impl_CubeHas.calls k4 _ _ t251 _ _ x11_4 t286 _ ?side1 ?side2 ?side3 ?side4 A52.out).mono ?_); (case side1 => repeat (first | exact (Kd.R_reads' HO_4.out).2.2 | (with_reducible refine Kd.C_alloc ?_ _) | (with_reducible refine Kd.C_drewN ?_ _) | (with_reducible refine Kd.C_drew ?_))); (case side2 => exact (Kd.R_reads' HO_4.out).2.1); (case side3 => repeat (first | exact (Kd.R_reads' HO_11.out).2.2 | (with_reducible refine Kd.C_alloc ?_ _) | (with_reducible refine Kd.C_drewN ?_ _) | (with_reducible refine Kd.C_drew ?_))); (case side4 => exact (Kd.R_reads' HO_11.out).2.1); rintro e w' ⟨rfl, ⟨nd, rfl⟩⟩; refine ⟨_, rfl, ?_⟩; obtain ⟨Ao58, co58, eo58⟩ := Kd.R_slice HO_5.out; subst eo58) | (go_at_call 52; (with_reducible refine (impl_CubeHas.calls k4 _ _ t256 _ _ x11_4 t287 _ ?side1 ?side2 ?side3 ?side4 A54.out).mono ?_); (case side1 => repeat (first | exact (Kd.R_reads' HO_5.out).2.2 | (with_reducible refine Kd.C_alloc ?_ _) | (with_reducible refine Kd.C_drewN ?_ _) | (with_reducible refine Kd.C_drew ?_))); (case side2 => exact (Kd.R_reads' HO_5.out).2.1); (case side3 => repeat (first | exact (Kd.R_reads' HO_11.out).2.2 | (with_reducible refine Kd.C_alloc ?_ _) | (with_reducible refine Kd.C_drewN ?_ _) | (with_reducible refine Kd.C_drew ?_))); (case side4 => exact (Kd.R_reads' HO_11.out).2.1); rintro e w' ⟨rfl, ⟨nd, rfl⟩⟩))
                                  go_ret
                                  exact ⟨by first | rfl | (simp [errW_none, errW_some] <;> rfl) | (simp only [← hji42]; first | rfl | (simp [errW_none, errW_some] <;> rfl)) | (simp [*, errW_none, errW_some] <;> rfl), by repeat (first | (with_reducible first | exact HB.out | apply below_alloc | apply pw_below_drewN | apply below_drew1) | exact HB.out)⟩
                                · rw [if_neg c56] at H
                                  have c56b0 : (t287 != t286) = false := by simpa using c56
                                  (try (have c56b1 : decide (t287 = t286) = true := by first | (exfalso; simp at c56; done) | simpa using c56))
                                  (try (have c56b2 : (t287 == t286) = true := by first | (exfalso; simp at c56; done) | simpa using c56))
                                  clear c56
                                  replace H := Option.bind_eq_some_iff.mp H
                                  obtain ⟨t288, A590, H⟩ := H
                                  replace H : (if t288 = true then (laws_FnCubeMeet.l0 k4 t250 t251 t256 true t264 ji42 (wrap64 (x82_3 + 1))) else (some false)) = some r := H
                                  have A59 := Aside0.mk A590
                                  clear A590
                                  by_cases c60 : t288 = true
                                  · subst c60
                                    have H1 : (laws_FnCubeMeet.l0 k4 t250 t251 t256 true t264 ji42 (wrap64 (x82_3 + 1))) = some r := by rw [if_pos rfl] at H; exact H
                                    clear H
                                    have H := H1
                                    clear H1
                                    have H' := Aside0.mk H
                                    clear H
                                    obtain ⟨Ao61, co61, eo61⟩ := Kd.R_slice HO_11.out
                                    subst eo61
                                    go_wp2_with (first | ((with_reducible refine gate_callee (f := 52) rfl ?_); refine goesL_ (some 101) rfl rfl Try.func52 (by kernel_rfl) rfl #[.slice Ao9 t250.length co9, .slice Ao61 x11_4.length co61] rfl (by (try simp only [List.map_toArray, List.map_cons, List.map_nil]); first | done | rfl | (simp only [List.length_drop, List.length_take]; rfl)) ?_; (with_reducible refine (impl_CubeHas.calls k4 _ _ t250 _ _ x11_4 true _ ?side1 ?side2 ?side3 ?side4 A51.out).mono ?_); (case side1 => repeat (first | exact (Kd.R_reads' HO_3.out).2.2 | (with_reducible refine Kd.C_alloc ?_ _) | (with_reducible refine Kd.C_drewN ?_ _) | (with_reducible refine Kd.C_drew ?_))); (case side2 => exact (Kd.R_reads' HO_3.out).2.1); (case side3 => repeat (first | exact (Kd.R_reads' HO_11.out).2.2 | (with_reducible refine Kd.C_alloc ?_ _) | (with_reducible refine Kd.C_drewN ?_ _) | (with_reducible refine Kd.C_drew ?_))); (case side4 => exact (Kd.R_reads' HO_11.out).2.1); rintro e w' ⟨rfl, ⟨nd, rfl⟩⟩; refine ⟨_, rfl, ?_⟩) | ((with_reducible refine gate_callee (f := 52) rfl ?_); refine goesL_ (some 104) rfl rfl Try.func52 (by kernel_rfl) rfl #[.slice Ao10 t251.length co10, .slice Ao61 x11_4.length co61] rfl (by (try simp only [List.map_toArray, List.map_cons, List.map_nil]); first | done | rfl | (simp only [List.length_drop, List.length_take]; rfl)) ?_; (with_reducible refine (impl_CubeHas.calls k4 _ _ t251 _ _ x11_4 t286 _ ?side1 ?side2 ?side3 ?side4 A52.out).mono ?_); (case side1 => repeat (first | exact (Kd.R_reads' HO_4.out).2.2 | (with_reducible refine Kd.C_alloc ?_ _) | (with_reducible refine Kd.C_drewN ?_ _) | (with_reducible refine Kd.C_drew ?_))); (case side2 => exact (Kd.R_reads' HO_4.out).2.1); (case side3 => repeat (first | exact (Kd.R_reads' HO_11.out).2.2 | (with_reducible refine Kd.C_alloc ?_ _) | (with_reducible refine Kd.C_drewN ?_ _) | (with_reducible refine Kd.C_drew ?_))); (case side4 => exact (Kd.R_reads' HO_11.out).2.1); rintro e w' ⟨rfl, ⟨nd, rfl⟩⟩; refine ⟨_, rfl, ?_⟩; obtain ⟨Ao62, co62, eo62⟩ := Kd.R_slice HO_5.out; subst eo62) | (go_at_call 52; (with_reducible refine (impl_CubeHas.calls k4 _ _ t256 _ _ x11_4 t287 _ ?side1 ?side2 ?side3 ?side4 A54.out).mono ?_); (case side1 => repeat (first | exact (Kd.R_reads' HO_5.out).2.2 | (with_reducible refine Kd.C_alloc ?_ _) | (with_reducible refine Kd.C_drewN ?_ _) | (with_reducible refine Kd.C_drew ?_))); (case side2 => exact (Kd.R_reads' HO_5.out).2.1); (case side3 => repeat (first | exact (Kd.R_reads' HO_11.out).2.2 | (with_reducible refine Kd.C_alloc ?_ _) | (with_reducible refine Kd.C_drewN ?_ _) | (with_reducible refine Kd.C_drew ?_))); (case side4 => exact (Kd.R_reads' HO_11.out).2.1); rintro e w' ⟨rfl, ⟨nd, rfl⟩⟩; obtain ⟨Ao63, co63, eo63⟩ := Kd.R_slice HO_9.out; subst eo63) | (go_at_call 52; (with_reducible refine (impl_CubeHas.calls k4 _ _ t264 _ _ x11_4 true _ ?side1 ?side2 ?side3 ?side4 A59.out).mono ?_); (case side1 => repeat (first | exact (Kd.R_reads' HO_9.out).2.2 | (with_reducible refine Kd.C_alloc ?_ _) | (with_reducible refine Kd.C_drewN ?_ _) | (with_reducible refine Kd.C_drew ?_))); (case side2 => exact (Kd.R_reads' HO_9.out).2.1); (case side3 => repeat (first | exact (Kd.R_reads' HO_11.out).2.2 | (with_reducible refine Kd.C_alloc ?_ _) | (with_reducible refine Kd.C_drewN ?_ _) | (with_reducible refine Kd.C_drew ?_))); (case side4 => exact (Kd.R_reads' HO_11.out).2.1); rintro e w' ⟨rfl, ⟨nd, rfl⟩⟩))
                                    go_roundg k4
                                    case measure => have := HJ6.out; have := HJ34.out; have := HK3.out; have := HK4.out; omega
                                    case rel => exact ⟨(wrap64 (x82_3 + 1)), (by first | rfl | (simp; done) | (simp [*]; done)), H', ⟨by have := HJ6.out; have := HJ34.out; have := HK3.out; have := HK4.out; omega⟩, ⟨by (with_reducible repeat (first | apply Kd.R_alloc | apply Kd.R_drewN | apply Kd.R_drew)); exact Kd.R_mono HO_3.out (fun _ hk => ⟨hk.1, ⟨hk.2.1, hk.2.2.1⟩⟩)⟩, ⟨by (with_reducible repeat (first | apply Kd.R_alloc | apply Kd.R_drewN | apply Kd.R_drew)); exact Kd.R_mono HO_4.out (fun _ hk => ⟨hk.1, ⟨hk.2.1, hk.2.2.1⟩⟩)⟩, ⟨by (with_reducible repeat (first | apply Kd.R_alloc | apply Kd.R_drewN | apply Kd.R_drew)); exact Kd.R_mono HO_5.out (fun _ hk => ⟨hk.1, ⟨hk.2.1, hk.2.2.1⟩⟩)⟩, ⟨by (with_reducible repeat (first | apply Kd.R_alloc | apply Kd.R_drewN | apply Kd.R_drew)); exact Kd.R_mono HO_9.out (fun _ hk => ⟨hk.1, ⟨hk.2.1, hk.2.2.1⟩⟩)⟩, ⟨by repeat (first | (with_reducible first | exact HB.out | apply below_alloc | apply pw_below_drewN | apply below_drew1) | exact HB.out)⟩⟩
                                  · replace c60 := Bool.eq_false_iff.mpr c60
                                    subst c60
                                    have H1 : (some false) = some r := by rw [if_neg (show ¬ (false = true) by decide)] at H; exact H
                                    clear H
                                    have H := H1
                                    clear H1
                                    obtain rfl := Option.some.inj H
                                    obtain ⟨Ao64, co64, eo64⟩ := Kd.R_slice HO_11.out
                                    subst eo64
                                    go_wp2_with (first | ((with_reducible refine gate_callee (f := 52) rfl ?_); refine goesL_ (some 101) rfl rfl Try.func52 (by kernel_rfl) rfl #[.slice Ao9 t250.length co9, .slice Ao64 x11_4.length co64] rfl (by (try simp only [List.map_toArray, List.map_cons, List.map_nil]); first | done | rfl | (simp only [List.length_drop, List.length_take]; rfl)) ?_; (with_reducible refine (impl_CubeHas.calls k4 _ _ t250 _ _ x11_4 true _ ?side1 ?side2 ?side3 ?side4 A51.out).mono ?_); (case side1 => repeat (first | exact (Kd.R_reads' HO_3.out).2.2 | (with_reducible refine Kd.C_alloc ?_ _) | (with_reducible refine Kd.C_drewN ?_ _) | (with_reducible refine Kd.C_drew ?_))); (case side2 => exact (Kd.R_reads' HO_3.out).2.1); (case side3 => repeat (first | exact (Kd.R_reads' HO_11.out).2.2 | (with_reducible refine Kd.C_alloc ?_ _) | (with_reducible refine Kd.C_drewN ?_ _) | (with_reducible refine Kd.C_drew ?_))); (case side4 => exact (Kd.R_reads' HO_11.out).2.1); rintro e w' ⟨rfl, ⟨nd, rfl⟩⟩; refine ⟨_, rfl, ?_⟩) | ((with_reducible refine gate_callee (f := 52) rfl ?_); refine goesL_ (some 104) rfl rfl Try.func52 (by kernel_rfl) rfl #[.slice Ao10 t251.length co10, .slice Ao64 x11_4.length co64] rfl (by (try simp only [List.map_toArray, List.map_cons, List.map_nil]); first | done | rfl | (simp only [List.length_drop, List.length_take]; rfl)) ?_; (with_reducible refine (impl_CubeHas.calls k4 _ _ t251 _ _ x11_4 t286 _ ?side1 ?side2 ?side3 ?side4 A52.out).mono ?_); (case side1 => repeat (first | exact (Kd.R_reads' HO_4.out).2.2 | (with_reducible refine Kd.C_alloc ?_ _) | (with_reducible refine Kd.C_drewN ?_ _) | (with_reducible refine Kd.C_drew ?_))); (case side2 => exact (Kd.R_reads' HO_4.out).2.1); (case side3 => repeat (first | exact (Kd.R_reads' HO_11.out).2.2 | (with_reducible refine Kd.C_alloc ?_ _) | (with_reducible refine Kd.C_drewN ?_ _) | (with_reducible refine Kd.C_drew ?_))); (case side4 => exact (Kd.R_reads' HO_11.out).2.1); rintro e w' ⟨rfl, ⟨nd, rfl⟩⟩; refine ⟨_, rfl, ?_⟩; obtain ⟨Ao65, co65, eo65⟩ := Kd.R_slice HO_5.out; subst eo65) | (go_at_call 52; (with_reducible refine (impl_CubeHas.calls k4 _ _ t256 _ _ x11_4 t287 _ ?side1 ?side2 ?side3 ?side4 A54.out).mono ?_); (case side1 => repeat (first | exact (Kd.R_reads' HO_5.out).2.2 | (with_reducible refine Kd.C_alloc ?_ _) | (with_reducible refine Kd.C_drewN ?_ _) | (with_reducible refine Kd.C_drew ?_))); (case side2 => exact (Kd.R_reads' HO_5.out).2.1); (case side3 => repeat (first | exact (Kd.R_reads' HO_11.out).2.2 | (with_reducible refine Kd.C_alloc ?_ _) | (with_reducible refine Kd.C_drewN ?_ _) | (with_reducible refine Kd.C_drew ?_))); (case side4 => exact (Kd.R_reads' HO_11.out).2.1); rintro e w' ⟨rfl, ⟨nd, rfl⟩⟩; obtain ⟨Ao66, co66, eo66⟩ := Kd.R_slice HO_9.out; subst eo66) | (go_at_call 52; (with_reducible refine (impl_CubeHas.calls k4 _ _ t264 _ _ x11_4 false _ ?side1 ?side2 ?side3 ?side4 A59.out).mono ?_); (case side1 => repeat (first | exact (Kd.R_reads' HO_9.out).2.2 | (with_reducible refine Kd.C_alloc ?_ _) | (with_reducible refine Kd.C_drewN ?_ _) | (with_reducible refine Kd.C_drew ?_))); (case side2 => exact (Kd.R_reads' HO_9.out).2.1); (case side3 => repeat (first | exact (Kd.R_reads' HO_11.out).2.2 | (with_reducible refine Kd.C_alloc ?_ _) | (with_reducible refine Kd.C_drewN ?_ _) | (with_reducible refine Kd.C_drew ?_))); (case side4 => exact (Kd.R_reads' HO_11.out).2.1); rintro e w' ⟨rfl, ⟨nd, rfl⟩⟩))
                                    go_ret
                                    exact ⟨by first | rfl | (simp [errW_none, errW_some] <;> rfl) | (simp only [← hji42]; first | rfl | (simp [errW_none, errW_some] <;> rfl)) | (simp [*, errW_none, errW_some] <;> rfl), by repeat (first | (with_reducible first | exact HB.out | apply below_alloc | apply pw_below_drewN | apply below_drew1) | exact HB.out)⟩
                              · replace c55 := Bool.eq_false_iff.mpr c55
                                subst c55
                                have H1 : (if (t287 != false) = true then (some false) else (if t286 = true then ((impl_CubeHas.f k4 t264 x11_4).bind fun t289 => (if t289 = true then (laws_FnCubeMeet.l0 k4 t250 t251 t256 true t264 ji42 (wrap64 (x82_3 + 1))) else (some false))) else (laws_FnCubeMeet.l0 k4 t250 t251 t256 true t264 ji42 (wrap64 (x82_3 + 1))))) = some r := by rw [if_neg (show ¬ (false = true) by decide)] at H; exact H
                                clear H
                                have H := H1
                                clear H1
                                by_cases c67 : (t287 != false) = true
                                · rw [if_pos c67] at H
                                  have c67b0 : (t287 != false) = true := c67
                                  (try (have c67b1 : decide (t287 = false) = false := by first | (exfalso; simp at c67; done) | simpa using c67))
                                  (try (have c67b2 : (t287 == false) = false := by first | (exfalso; simp at c67; done) | simpa using c67))
                                  (try (have c67b3 : ¬ (t287 = false) := by first | (exfalso; simp at c67; done) | simpa using c67))
                                  clear c67
                                  obtain rfl := Option.some.inj H
                                  obtain ⟨Ao68, co68, eo68⟩ := Kd.R_slice HO_11.out
                                  subst eo68
                                  go_wp2_with (first | ((with_reducible refine gate_callee (f := 52) rfl ?_); refine goesL_ (some 101) rfl rfl Try.func52 (by kernel_rfl) rfl #[.slice Ao9 t250.length co9, .slice Ao68 x11_4.length co68] rfl (by (try simp only [List.map_toArray, List.map_cons, List.map_nil]); first | done | rfl | (simp only [List.length_drop, List.length_take]; rfl)) ?_; (with_reducible refine (impl_CubeHas.calls k4 _ _ t250 _ _ x11_4 false _ ?side1 ?side2 ?side3 ?side4 A51.out).mono ?_); (case side1 => repeat (first | exact (Kd.R_reads' HO_3.out).2.2 | (with_reducible refine Kd.C_alloc ?_ _) | (with_reducible refine Kd.C_drewN ?_ _) | (with_reducible refine Kd.C_drew ?_))); (case side2 => exact (Kd.R_reads' HO_3.out).2.1); (case side3 => repeat (first | exact (Kd.R_reads' HO_11.out).2.2 | (with_reducible refine Kd.C_alloc ?_ _) | (with_reducible refine Kd.C_drewN ?_ _) | (with_reducible refine Kd.C_drew ?_))); (case side4 => exact (Kd.R_reads' HO_11.out).2.1); rintro e w' ⟨rfl, ⟨nd, rfl⟩⟩; refine ⟨_, rfl, ?_⟩) | ((with_reducible refine gate_callee (f := 52) rfl ?_); refine goesL_ (some 104) rfl rfl Try.func52 (by kernel_rfl) rfl #[.slice Ao10 t251.length co10, .slice Ao68 x11_4.length co68] rfl (by (try simp only [List.map_toArray, List.map_cons, List.map_nil]); first | done | rfl | (simp only [List.length_drop, List.length_take]; rfl)) ?_; (with_reducible refine (impl_CubeHas.calls k4 _ _ t251 _ _ x11_4 t286 _ ?side1 ?side2 ?side3 ?side4 A52.out).mono ?_); (case side1 => repeat (first | exact (Kd.R_reads' HO_4.out).2.2 | (with_reducible refine Kd.C_alloc ?_ _) | (with_reducible refine Kd.C_drewN ?_ _) | (with_reducible refine Kd.C_drew ?_))); (case side2 => exact (Kd.R_reads' HO_4.out).2.1); (case side3 => repeat (first | exact (Kd.R_reads' HO_11.out).2.2 | (with_reducible refine Kd.C_alloc ?_ _) | (with_reducible refine Kd.C_drewN ?_ _) | (with_reducible refine Kd.C_drew ?_))); (case side4 => exact (Kd.R_reads' HO_11.out).2.1); rintro e w' ⟨rfl, ⟨nd, rfl⟩⟩; refine ⟨_, rfl, ?_⟩; obtain ⟨Ao69, co69, eo69⟩ := Kd.R_slice HO_5.out; subst eo69) | (go_at_call 52; (with_reducible refine (impl_CubeHas.calls k4 _ _ t256 _ _ x11_4 t287 _ ?side1 ?side2 ?side3 ?side4 A54.out).mono ?_); (case side1 => repeat (first | exact (Kd.R_reads' HO_5.out).2.2 | (with_reducible refine Kd.C_alloc ?_ _) | (with_reducible refine Kd.C_drewN ?_ _) | (with_reducible refine Kd.C_drew ?_))); (case side2 => exact (Kd.R_reads' HO_5.out).2.1); (case side3 => repeat (first | exact (Kd.R_reads' HO_11.out).2.2 | (with_reducible refine Kd.C_alloc ?_ _) | (with_reducible refine Kd.C_drewN ?_ _) | (with_reducible refine Kd.C_drew ?_))); (case side4 => exact (Kd.R_reads' HO_11.out).2.1); rintro e w' ⟨rfl, ⟨nd, rfl⟩⟩))
                                  go_ret
                                  exact ⟨by first | rfl | (simp [errW_none, errW_some] <;> rfl) | (simp only [← hji42]; first | rfl | (simp [errW_none, errW_some] <;> rfl)) | (simp [*, errW_none, errW_some] <;> rfl), by repeat (first | (with_reducible first | exact HB.out | apply below_alloc | apply pw_below_drewN | apply below_drew1) | exact HB.out)⟩
                                · rw [if_neg c67] at H
                                  have c67b0 : (t287 != false) = false := by simpa using c67
                                  (try (have c67b1 : decide (t287 = false) = true := by first | (exfalso; simp at c67; done) | simpa using c67))
                                  (try (have c67b2 : (t287 == false) = true := by first | (exfalso; simp at c67; done) | simpa using c67))
                                  clear c67
                                  by_cases c70 : t286 = true
                                  · subst c70
                                    have H1 : ((impl_CubeHas.f k4 t264 x11_4).bind fun t289 => (if t289 = true then (laws_FnCubeMeet.l0 k4 t250 t251 t256 true t264 ji42 (wrap64 (x82_3 + 1))) else (some false))) = some r := by rw [if_pos rfl] at H; exact H
                                    clear H
                                    have H := H1
                                    clear H1
                                    replace H := Option.bind_eq_some_iff.mp H
                                    obtain ⟨t289, A710, H⟩ := H
                                    replace H : (if t289 = true then (laws_FnCubeMeet.l0 k4 t250 t251 t256 true t264 ji42 (wrap64 (x82_3 + 1))) else (some false)) = some r := H
                                    have A71 := Aside0.mk A710
                                    clear A710
                                    by_cases c72 : t289 = true
                                    · subst c72
                                      have H1 : (laws_FnCubeMeet.l0 k4 t250 t251 t256 true t264 ji42 (wrap64 (x82_3 + 1))) = some r := by rw [if_pos rfl] at H; exact H
                                      clear H
                                      have H := H1
                                      clear H1
                                      have H' := Aside0.mk H
                                      clear H
                                      obtain ⟨Ao73, co73, eo73⟩ := Kd.R_slice HO_11.out
                                      subst eo73
                                      go_wp2_with (first | ((with_reducible refine gate_callee (f := 52) rfl ?_); refine goesL_ (some 101) rfl rfl Try.func52 (by kernel_rfl) rfl #[.slice Ao9 t250.length co9, .slice Ao73 x11_4.length co73] rfl (by (try simp only [List.map_toArray, List.map_cons, List.map_nil]); first | done | rfl | (simp only [List.length_drop, List.length_take]; rfl)) ?_; (with_reducible refine (impl_CubeHas.calls k4 _ _ t250 _ _ x11_4 false _ ?side1 ?side2 ?side3 ?side4 A51.out).mono ?_); (case side1 => repeat (first | exact (Kd.R_reads' HO_3.out).2.2 | (with_reducible refine Kd.C_alloc ?_ _) | (with_reducible refine Kd.C_drewN ?_ _) | (with_reducible refine Kd.C_drew ?_))); (case side2 => exact (Kd.R_reads' HO_3.out).2.1); (case side3 => repeat (first | exact (Kd.R_reads' HO_11.out).2.2 | (with_reducible refine Kd.C_alloc ?_ _) | (with_reducible refine Kd.C_drewN ?_ _) | (with_reducible refine Kd.C_drew ?_))); (case side4 => exact (Kd.R_reads' HO_11.out).2.1); rintro e w' ⟨rfl, ⟨nd, rfl⟩⟩; refine ⟨_, rfl, ?_⟩) | ((with_reducible refine gate_callee (f := 52) rfl ?_); refine goesL_ (some 104) rfl rfl Try.func52 (by kernel_rfl) rfl #[.slice Ao10 t251.length co10, .slice Ao73 x11_4.length co73] rfl (by (try simp only [List.map_toArray, List.map_cons, List.map_nil]); first | done | rfl | (simp only [List.length_drop, List.length_take]; rfl)) ?_; (with_reducible refine (impl_CubeHas.calls k4 _ _ t251 _ _ x11_4 true _ ?side1 ?side2 ?side3 ?side4 A52.out).mono ?_); (case side1 => repeat (first | exact (Kd.R_reads' HO_4.out).2.2 | (with_reducible refine Kd.C_alloc ?_ _) | (with_reducible refine Kd.C_drewN ?_ _) | (with_reducible refine Kd.C_drew ?_))); (case side2 => exact (Kd.R_reads' HO_4.out).2.1); (case side3 => repeat (first | exact (Kd.R_reads' HO_11.out).2.2 | (with_reducible refine Kd.C_alloc ?_ _) | (with_reducible refine Kd.C_drewN ?_ _) | (with_reducible refine Kd.C_drew ?_))); (case side4 => exact (Kd.R_reads' HO_11.out).2.1); rintro e w' ⟨rfl, ⟨nd, rfl⟩⟩; refine ⟨_, rfl, ?_⟩; obtain ⟨Ao74, co74, eo74⟩ := Kd.R_slice HO_5.out; subst eo74) | (go_at_call 52; (with_reducible refine (impl_CubeHas.calls k4 _ _ t256 _ _ x11_4 t287 _ ?side1 ?side2 ?side3 ?side4 A54.out).mono ?_); (case side1 => repeat (first | exact (Kd.R_reads' HO_5.out).2.2 | (with_reducible refine Kd.C_alloc ?_ _) | (with_reducible refine Kd.C_drewN ?_ _) | (with_reducible refine Kd.C_drew ?_))); (case side2 => exact (Kd.R_reads' HO_5.out).2.1); (case side3 => repeat (first | exact (Kd.R_reads' HO_11.out).2.2 | (with_reducible refine Kd.C_alloc ?_ _) | (with_reducible refine Kd.C_drewN ?_ _) | (with_reducible refine Kd.C_drew ?_))); (case side4 => exact (Kd.R_reads' HO_11.out).2.1); rintro e w' ⟨rfl, ⟨nd, rfl⟩⟩; obtain ⟨Ao75, co75, eo75⟩ := Kd.R_slice HO_9.out; subst eo75) | (go_at_call 52; (with_reducible refine (impl_CubeHas.calls k4 _ _ t264 _ _ x11_4 true _ ?side1 ?side2 ?side3 ?side4 A71.out).mono ?_); (case side1 => repeat (first | exact (Kd.R_reads' HO_9.out).2.2 | (with_reducible refine Kd.C_alloc ?_ _) | (with_reducible refine Kd.C_drewN ?_ _) | (with_reducible refine Kd.C_drew ?_))); (case side2 => exact (Kd.R_reads' HO_9.out).2.1); (case side3 => repeat (first | exact (Kd.R_reads' HO_11.out).2.2 | (with_reducible refine Kd.C_alloc ?_ _) | (with_reducible refine Kd.C_drewN ?_ _) | (with_reducible refine Kd.C_drew ?_))); (case side4 => exact (Kd.R_reads' HO_11.out).2.1); rintro e w' ⟨rfl, ⟨nd, rfl⟩⟩))
                                      go_roundg k4
                                      case measure => have := HJ6.out; have := HJ34.out; have := HK3.out; have := HK4.out; omega
                                      case rel => exact ⟨(wrap64 (x82_3 + 1)), (by first | rfl | (simp; done) | (simp [*]; done)), H', ⟨by have := HJ6.out; have := HJ34.out; have := HK3.out; have := HK4.out; omega⟩, ⟨by (with_reducible repeat (first | apply Kd.R_alloc | apply Kd.R_drewN | apply Kd.R_drew)); exact Kd.R_mono HO_3.out (fun _ hk => ⟨hk.1, ⟨hk.2.1, hk.2.2.1⟩⟩)⟩, ⟨by (with_reducible repeat (first | apply Kd.R_alloc | apply Kd.R_drewN | apply Kd.R_drew)); exact Kd.R_mono HO_4.out (fun _ hk => ⟨hk.1, ⟨hk.2.1, hk.2.2.1⟩⟩)⟩, ⟨by (with_reducible repeat (first | apply Kd.R_alloc | apply Kd.R_drewN | apply Kd.R_drew)); exact Kd.R_mono HO_5.out (fun _ hk => ⟨hk.1, ⟨hk.2.1, hk.2.2.1⟩⟩)⟩, ⟨by (with_reducible repeat (first | apply Kd.R_alloc | apply Kd.R_drewN | apply Kd.R_drew)); exact Kd.R_mono HO_9.out (fun _ hk => ⟨hk.1, ⟨hk.2.1, hk.2.2.1⟩⟩)⟩, ⟨by repeat (first | (with_reducible first | exact HB.out | apply below_alloc | apply pw_below_drewN | apply below_drew1) | exact HB.out)⟩⟩
                                    · replace c72 := Bool.eq_false_iff.mpr c72
                                      subst c72
                                      have H1 : (some false) = some r := by rw [if_neg (show ¬ (false = true) by decide)] at H; exact H
                                      clear H
                                      have H := H1
                                      clear H1
                                      obtain rfl := Option.some.inj H
                                      obtain ⟨Ao76, co76, eo76⟩ := Kd.R_slice HO_11.out
                                      subst eo76
                                      go_wp2_with (first | ((with_reducible refine gate_callee (f := 52) rfl ?_); refine goesL_ (some 101) rfl rfl Try.func52 (by kernel_rfl) rfl #[.slice Ao9 t250.length co9, .slice Ao76 x11_4.length co76] rfl (by (try simp only [List.map_toArray, List.map_cons, List.map_nil]); first | done | rfl | (simp only [List.length_drop, List.length_take]; rfl)) ?_; (with_reducible refine (impl_CubeHas.calls k4 _ _ t250 _ _ x11_4 false _ ?side1 ?side2 ?side3 ?side4 A51.out).mono ?_); (case side1 => repeat (first | exact (Kd.R_reads' HO_3.out).2.2 | (with_reducible refine Kd.C_alloc ?_ _) | (with_reducible refine Kd.C_drewN ?_ _) | (with_reducible refine Kd.C_drew ?_))); (case side2 => exact (Kd.R_reads' HO_3.out).2.1); (case side3 => repeat (first | exact (Kd.R_reads' HO_11.out).2.2 | (with_reducible refine Kd.C_alloc ?_ _) | (with_reducible refine Kd.C_drewN ?_ _) | (with_reducible refine Kd.C_drew ?_))); (case side4 => exact (Kd.R_reads' HO_11.out).2.1); rintro e w' ⟨rfl, ⟨nd, rfl⟩⟩; refine ⟨_, rfl, ?_⟩) | ((with_reducible refine gate_callee (f := 52) rfl ?_); refine goesL_ (some 104) rfl rfl Try.func52 (by kernel_rfl) rfl #[.slice Ao10 t251.length co10, .slice Ao76 x11_4.length co76] rfl (by (try simp only [List.map_toArray, List.map_cons, List.map_nil]); first | done | rfl | (simp only [List.length_drop, List.length_take]; rfl)) ?_; (with_reducible refine (impl_CubeHas.calls k4 _ _ t251 _ _ x11_4 true _ ?side1 ?side2 ?side3 ?side4 A52.out).mono ?_); (case side1 => repeat (first | exact (Kd.R_reads' HO_4.out).2.2 | (with_reducible refine Kd.C_alloc ?_ _) | (with_reducible refine Kd.C_drewN ?_ _) | (with_reducible refine Kd.C_drew ?_))); (case side2 => exact (Kd.R_reads' HO_4.out).2.1); (case side3 => repeat (first | exact (Kd.R_reads' HO_11.out).2.2 | (with_reducible refine Kd.C_alloc ?_ _) | (with_reducible refine Kd.C_drewN ?_ _) | (with_reducible refine Kd.C_drew ?_))); (case side4 => exact (Kd.R_reads' HO_11.out).2.1); rintro e w' ⟨rfl, ⟨nd, rfl⟩⟩; refine ⟨_, rfl, ?_⟩; obtain ⟨Ao77, co77, eo77⟩ := Kd.R_slice HO_5.out; subst eo77) | (go_at_call 52; (with_reducible refine (impl_CubeHas.calls k4 _ _ t256 _ _ x11_4 t287 _ ?side1 ?side2 ?side3 ?side4 A54.out).mono ?_); (case side1 => repeat (first | exact (Kd.R_reads' HO_5.out).2.2 | (with_reducible refine Kd.C_alloc ?_ _) | (with_reducible refine Kd.C_drewN ?_ _) | (with_reducible refine Kd.C_drew ?_))); (case side2 => exact (Kd.R_reads' HO_5.out).2.1); (case side3 => repeat (first | exact (Kd.R_reads' HO_11.out).2.2 | (with_reducible refine Kd.C_alloc ?_ _) | (with_reducible refine Kd.C_drewN ?_ _) | (with_reducible refine Kd.C_drew ?_))); (case side4 => exact (Kd.R_reads' HO_11.out).2.1); rintro e w' ⟨rfl, ⟨nd, rfl⟩⟩; obtain ⟨Ao78, co78, eo78⟩ := Kd.R_slice HO_9.out; subst eo78) | (go_at_call 52; (with_reducible refine (impl_CubeHas.calls k4 _ _ t264 _ _ x11_4 false _ ?side1 ?side2 ?side3 ?side4 A71.out).mono ?_); (case side1 => repeat (first | exact (Kd.R_reads' HO_9.out).2.2 | (with_reducible refine Kd.C_alloc ?_ _) | (with_reducible refine Kd.C_drewN ?_ _) | (with_reducible refine Kd.C_drew ?_))); (case side2 => exact (Kd.R_reads' HO_9.out).2.1); (case side3 => repeat (first | exact (Kd.R_reads' HO_11.out).2.2 | (with_reducible refine Kd.C_alloc ?_ _) | (with_reducible refine Kd.C_drewN ?_ _) | (with_reducible refine Kd.C_drew ?_))); (case side4 => exact (Kd.R_reads' HO_11.out).2.1); rintro e w' ⟨rfl, ⟨nd, rfl⟩⟩))
                                      go_ret
                                      exact ⟨by first | rfl | (simp [errW_none, errW_some] <;> rfl) | (simp only [← hji42]; first | rfl | (simp [errW_none, errW_some] <;> rfl)) | (simp [*, errW_none, errW_some] <;> rfl), by repeat (first | (with_reducible first | exact HB.out | apply below_alloc | apply pw_below_drewN | apply below_drew1) | exact HB.out)⟩
                                  · replace c70 := Bool.eq_false_iff.mpr c70
                                    subst c70
                                    have H1 : (laws_FnCubeMeet.l0 k4 t250 t251 t256 true t264 ji42 (wrap64 (x82_3 + 1))) = some r := by rw [if_neg (show ¬ (false = true) by decide)] at H; exact H
                                    clear H
                                    have H := H1
                                    clear H1
                                    have H' := Aside0.mk H
                                    clear H
                                    obtain ⟨Ao79, co79, eo79⟩ := Kd.R_slice HO_11.out
                                    subst eo79
                                    go_wp2_with (first | ((with_reducible refine gate_callee (f := 52) rfl ?_); refine goesL_ (some 101) rfl rfl Try.func52 (by kernel_rfl) rfl #[.slice Ao9 t250.length co9, .slice Ao79 x11_4.length co79] rfl (by (try simp only [List.map_toArray, List.map_cons, List.map_nil]); first | done | rfl | (simp only [List.length_drop, List.length_take]; rfl)) ?_; (with_reducible refine (impl_CubeHas.calls k4 _ _ t250 _ _ x11_4 false _ ?side1 ?side2 ?side3 ?side4 A51.out).mono ?_); (case side1 => repeat (first | exact (Kd.R_reads' HO_3.out).2.2 | (with_reducible refine Kd.C_alloc ?_ _) | (with_reducible refine Kd.C_drewN ?_ _) | (with_reducible refine Kd.C_drew ?_))); (case side2 => exact (Kd.R_reads' HO_3.out).2.1); (case side3 => repeat (first | exact (Kd.R_reads' HO_11.out).2.2 | (with_reducible refine Kd.C_alloc ?_ _) | (with_reducible refine Kd.C_drewN ?_ _) | (with_reducible refine Kd.C_drew ?_))); (case side4 => exact (Kd.R_reads' HO_11.out).2.1); rintro e w' ⟨rfl, ⟨nd, rfl⟩⟩; refine ⟨_, rfl, ?_⟩) | ((with_reducible refine gate_callee (f := 52) rfl ?_); refine goesL_ (some 104) rfl rfl Try.func52 (by kernel_rfl) rfl #[.slice Ao10 t251.length co10, .slice Ao79 x11_4.length co79] rfl (by (try simp only [List.map_toArray, List.map_cons, List.map_nil]); first | done | rfl | (simp only [List.length_drop, List.length_take]; rfl)) ?_; (with_reducible refine (impl_CubeHas.calls k4 _ _ t251 _ _ x11_4 false _ ?side1 ?side2 ?side3 ?side4 A52.out).mono ?_); (case side1 => repeat (first | exact (Kd.R_reads' HO_4.out).2.2 | (with_reducible refine Kd.C_alloc ?_ _) | (with_reducible refine Kd.C_drewN ?_ _) | (with_reducible refine Kd.C_drew ?_))); (case side2 => exact (Kd.R_reads' HO_4.out).2.1); (case side3 => repeat (first | exact (Kd.R_reads' HO_11.out).2.2 | (with_reducible refine Kd.C_alloc ?_ _) | (with_reducible refine Kd.C_drewN ?_ _) | (with_reducible refine Kd.C_drew ?_))); (case side4 => exact (Kd.R_reads' HO_11.out).2.1); rintro e w' ⟨rfl, ⟨nd, rfl⟩⟩; refine ⟨_, rfl, ?_⟩; obtain ⟨Ao80, co80, eo80⟩ := Kd.R_slice HO_5.out; subst eo80) | (go_at_call 52; (with_reducible refine (impl_CubeHas.calls k4 _ _ t256 _ _ x11_4 t287 _ ?side1 ?side2 ?side3 ?side4 A54.out).mono ?_); (case side1 => repeat (first | exact (Kd.R_reads' HO_5.out).2.2 | (with_reducible refine Kd.C_alloc ?_ _) | (with_reducible refine Kd.C_drewN ?_ _) | (with_reducible refine Kd.C_drew ?_))); (case side2 => exact (Kd.R_reads' HO_5.out).2.1); (case side3 => repeat (first | exact (Kd.R_reads' HO_11.out).2.2 | (with_reducible refine Kd.C_alloc ?_ _) | (with_reducible refine Kd.C_drewN ?_ _) | (with_reducible refine Kd.C_drew ?_))); (case side4 => exact (Kd.R_reads' HO_11.out).2.1); rintro e w' ⟨rfl, ⟨nd, rfl⟩⟩))
                                    go_roundg k4
                                    case measure => have := HJ6.out; have := HJ34.out; have := HK3.out; have := HK4.out; omega
                                    case rel => exact ⟨(wrap64 (x82_3 + 1)), (by first | rfl | (simp; done) | (simp [*]; done)), H', ⟨by have := HJ6.out; have := HJ34.out; have := HK3.out; have := HK4.out; omega⟩, ⟨by (with_reducible repeat (first | apply Kd.R_alloc | apply Kd.R_drewN | apply Kd.R_drew)); exact Kd.R_mono HO_3.out (fun _ hk => ⟨hk.1, ⟨hk.2.1, hk.2.2.1⟩⟩)⟩, ⟨by (with_reducible repeat (first | apply Kd.R_alloc | apply Kd.R_drewN | apply Kd.R_drew)); exact Kd.R_mono HO_4.out (fun _ hk => ⟨hk.1, ⟨hk.2.1, hk.2.2.1⟩⟩)⟩, ⟨by (with_reducible repeat (first | apply Kd.R_alloc | apply Kd.R_drewN | apply Kd.R_drew)); exact Kd.R_mono HO_5.out (fun _ hk => ⟨hk.1, ⟨hk.2.1, hk.2.2.1⟩⟩)⟩, ⟨by (with_reducible repeat (first | apply Kd.R_alloc | apply Kd.R_drewN | apply Kd.R_drew)); exact Kd.R_mono HO_9.out (fun _ hk => ⟨hk.1, ⟨hk.2.1, hk.2.2.1⟩⟩)⟩, ⟨by repeat (first | (with_reducible first | exact HB.out | apply below_alloc | apply pw_below_drewN | apply below_drew1) | exact HB.out)⟩⟩
                            · replace c53 := Bool.eq_false_iff.mpr c53
                              subst c53
                              have H1 : (if t285 = true then (if (false != t286) = true then (some false) else ((impl_CubeHas.f k4 t264 x11_4).bind fun t290 => (if t290 = true then (laws_FnCubeMeet.l0 k4 t250 t251 t256 false t264 ji42 (wrap64 (x82_3 + 1))) else (some false)))) else (if (false != false) = true then (some false) else (if t286 = true then ((impl_CubeHas.f k4 t264 x11_4).bind fun t291 => (if t291 = true then (laws_FnCubeMeet.l0 k4 t250 t251 t256 false t264 ji42 (wrap64 (x82_3 + 1))) else (some false))) else (laws_FnCubeMeet.l0 k4 t250 t251 t256 false t264 ji42 (wrap64 (x82_3 + 1)))))) = some r := by rw [if_neg (show ¬ (false = true) by decide)] at H; exact H
                              clear H
                              have H := H1
                              clear H1
                              by_cases c81 : t285 = true
                              · subst c81
                                have H1 : (if (false != t286) = true then (some false) else ((impl_CubeHas.f k4 t264 x11_4).bind fun t290 => (if t290 = true then (laws_FnCubeMeet.l0 k4 t250 t251 t256 false t264 ji42 (wrap64 (x82_3 + 1))) else (some false)))) = some r := by rw [if_pos rfl] at H; exact H
                                clear H
                                have H := H1
                                clear H1
                                by_cases c82 : (false != t286) = true
                                · rw [if_pos c82] at H
                                  have c82b0 : (false != t286) = true := c82
                                  (try (have c82b1 : decide (false = t286) = false := by first | (exfalso; simp at c82; done) | simpa using c82))
                                  (try (have c82b2 : (false == t286) = false := by first | (exfalso; simp at c82; done) | simpa using c82))
                                  (try (have c82b3 : ¬ (false = t286) := by first | (exfalso; simp at c82; done) | simpa using c82))
                                  clear c82
                                  obtain rfl := Option.some.inj H
                                  obtain ⟨Ao83, co83, eo83⟩ := Kd.R_slice HO_11.out
                                  subst eo83
                                  go_wp2_with (first | ((with_reducible refine gate_callee (f := 52) rfl ?_); refine goesL_ (some 101) rfl rfl Try.func52 (by kernel_rfl) rfl #[.slice Ao9 t250.length co9, .slice Ao83 x11_4.length co83] rfl (by (try simp only [List.map_toArray, List.map_cons, List.map_nil]); first | done | rfl | (simp only [List.length_drop, List.length_take]; rfl)) ?_; (with_reducible refine (impl_CubeHas.calls k4 _ _ t250 _ _ x11_4 true _ ?side1 ?side2 ?side3 ?side4 A51.out).mono ?_); (case side1 => repeat (first | exact (Kd.R_reads' HO_3.out).2.2 | (with_reducible refine Kd.C_alloc ?_ _) | (with_reducible refine Kd.C_drewN ?_ _) | (with_reducible refine Kd.C_drew ?_))); (case side2 => exact (Kd.R_reads' HO_3.out).2.1); (case side3 => repeat (first | exact (Kd.R_reads' HO_11.out).2.2 | (with_reducible refine Kd.C_alloc ?_ _) | (with_reducible refine Kd.C_drewN ?_ _) | (with_reducible refine Kd.C_drew ?_))); (case side4 => exact (Kd.R_reads' HO_11.out).2.1); rintro e w' ⟨rfl, ⟨nd, rfl⟩⟩; refine ⟨_, rfl, ?_⟩) | ((with_reducible refine gate_callee (f := 52) rfl ?_); refine goesL_ (some 104) rfl rfl Try.func52 (by kernel_rfl) rfl #[.slice Ao10 t251.length co10, .slice Ao83 x11_4.length co83] rfl (by (try simp only [List.map_toArray, List.map_cons, List.map_nil]); first | done | rfl | (simp only [List.length_drop, List.length_take]; rfl)) ?_; (with_reducible refine (impl_CubeHas.calls k4 _ _ t251 _ _ x11_4 t286 _ ?side1 ?side2 ?side3 ?side4 A52.out).mono ?_); (case side1 => repeat (first | exact (Kd.R_reads' HO_4.out).2.2 | (with_reducible refine Kd.C_alloc ?_ _) | (with_reducible refine Kd.C_drewN ?_ _) | (with_reducible refine Kd.C_drew ?_))); (case side2 => exact (Kd.R_reads' HO_4.out).2.1); (case side3 => repeat (first | exact (Kd.R_reads' HO_11.out).2.2 | (with_reducible refine Kd.C_alloc ?_ _) | (with_reducible refine Kd.C_drewN ?_ _) | (with_reducible refine Kd.C_drew ?_))); (case side4 => exact (Kd.R_reads' HO_11.out).2.1); rintro e w' ⟨rfl, ⟨nd, rfl⟩⟩; refine ⟨_, rfl, ?_⟩))
                                  go_ret
                                  exact ⟨by first | rfl | (simp [errW_none, errW_some] <;> rfl) | (simp only [← hji42]; first | rfl | (simp [errW_none, errW_some] <;> rfl)) | (simp [*, errW_none, errW_some] <;> rfl), by repeat (first | (with_reducible first | exact HB.out | apply below_alloc | apply pw_below_drewN | apply below_drew1) | exact HB.out)⟩
                                · rw [if_neg c82] at H
                                  have c82b0 : (false != t286) = false := by simpa using c82
                                  (try (have c82b1 : decide (false = t286) = true := by first | (exfalso; simp at c82; done) | simpa using c82))
                                  (try (have c82b2 : (false == t286) = true := by first | (exfalso; simp at c82; done) | simpa using c82))
                                  clear c82
                                  replace H := Option.bind_eq_some_iff.mp H
                                  obtain ⟨t290, A840, H⟩ := H
                                  replace H : (if t290 = true then (laws_FnCubeMeet.l0 k4 t250 t251 t256 false t264 ji42 (wrap64 (x82_3 + 1))) else (some false)) = some r := H
                                  have A84 := Aside0.mk A840
                                  clear A840
                                  by_cases c85 : t290 = true
                                  · subst c85
                                    have H1 : (laws_FnCubeMeet.l0 k4 t250 t251 t256 false t264 ji42 (wrap64 (x82_3 + 1))) = some r := by rw [if_pos rfl] at H; exact H
                                    clear H
                                    have H := H1
                                    clear H1
                                    have H' := Aside0.mk H
                                    clear H
                                    obtain ⟨Ao86, co86, eo86⟩ := Kd.R_slice HO_11.out
                                    subst eo86
                                    go_wp2_with (first | ((with_reducible refine gate_callee (f := 52) rfl ?_); refine goesL_ (some 101) rfl rfl Try.func52 (by kernel_rfl) rfl #[.slice Ao9 t250.length co9, .slice Ao86 x11_4.length co86] rfl (by (try simp only [List.map_toArray, List.map_cons, List.map_nil]); first | done | rfl | (simp only [List.length_drop, List.length_take]; rfl)) ?_; (with_reducible refine (impl_CubeHas.calls k4 _ _ t250 _ _ x11_4 true _ ?side1 ?side2 ?side3 ?side4 A51.out).mono ?_); (case side1 => repeat (first | exact (Kd.R_reads' HO_3.out).2.2 | (with_reducible refine Kd.C_alloc ?_ _) | (with_reducible refine Kd.C_drewN ?_ _) | (with_reducible refine Kd.C_drew ?_))); (case side2 => exact (Kd.R_reads' HO_3.out).2.1); (case side3 => repeat (first | exact (Kd.R_reads' HO_11.out).2.2 | (with_reducible refine Kd.C_alloc ?_ _) | (with_reducible refine Kd.C_drewN ?_ _) | (with_reducible refine Kd.C_drew ?_))); (case side4 => exact (Kd.R_reads' HO_11.out).2.1); rintro e w' ⟨rfl, ⟨nd, rfl⟩⟩; refine ⟨_, rfl, ?_⟩) | ((with_reducible refine gate_callee (f := 52) rfl ?_); refine goesL_ (some 104) rfl rfl Try.func52 (by kernel_rfl) rfl #[.slice Ao10 t251.length co10, .slice Ao86 x11_4.length co86] rfl (by (try simp only [List.map_toArray, List.map_cons, List.map_nil]); first | done | rfl | (simp only [List.length_drop, List.length_take]; rfl)) ?_; (with_reducible refine (impl_CubeHas.calls k4 _ _ t251 _ _ x11_4 t286 _ ?side1 ?side2 ?side3 ?side4 A52.out).mono ?_); (case side1 => repeat (first | exact (Kd.R_reads' HO_4.out).2.2 | (with_reducible refine Kd.C_alloc ?_ _) | (with_reducible refine Kd.C_drewN ?_ _) | (with_reducible refine Kd.C_drew ?_))); (case side2 => exact (Kd.R_reads' HO_4.out).2.1); (case side3 => repeat (first | exact (Kd.R_reads' HO_11.out).2.2 | (with_reducible refine Kd.C_alloc ?_ _) | (with_reducible refine Kd.C_drewN ?_ _) | (with_reducible refine Kd.C_drew ?_))); (case side4 => exact (Kd.R_reads' HO_11.out).2.1); rintro e w' ⟨rfl, ⟨nd, rfl⟩⟩; refine ⟨_, rfl, ?_⟩; obtain ⟨Ao87, co87, eo87⟩ := Kd.R_slice HO_9.out; subst eo87) | (go_at_call 52; (with_reducible refine (impl_CubeHas.calls k4 _ _ t264 _ _ x11_4 true _ ?side1 ?side2 ?side3 ?side4 A84.out).mono ?_); (case side1 => repeat (first | exact (Kd.R_reads' HO_9.out).2.2 | (with_reducible refine Kd.C_alloc ?_ _) | (with_reducible refine Kd.C_drewN ?_ _) | (with_reducible refine Kd.C_drew ?_))); (case side2 => exact (Kd.R_reads' HO_9.out).2.1); (case side3 => repeat (first | exact (Kd.R_reads' HO_11.out).2.2 | (with_reducible refine Kd.C_alloc ?_ _) | (with_reducible refine Kd.C_drewN ?_ _) | (with_reducible refine Kd.C_drew ?_))); (case side4 => exact (Kd.R_reads' HO_11.out).2.1); rintro e w' ⟨rfl, ⟨nd, rfl⟩⟩))
                                    go_roundg k4
                                    case measure => have := HJ6.out; have := HJ34.out; have := HK3.out; have := HK4.out; omega
                                    case rel => exact ⟨(wrap64 (x82_3 + 1)), (by first | rfl | (simp; done) | (simp [*]; done)), H', ⟨by have := HJ6.out; have := HJ34.out; have := HK3.out; have := HK4.out; omega⟩, ⟨by (with_reducible repeat (first | apply Kd.R_alloc | apply Kd.R_drewN | apply Kd.R_drew)); exact Kd.R_mono HO_3.out (fun _ hk => ⟨hk.1, ⟨hk.2.1, hk.2.2.1⟩⟩)⟩, ⟨by (with_reducible repeat (first | apply Kd.R_alloc | apply Kd.R_drewN | apply Kd.R_drew)); exact Kd.R_mono HO_4.out (fun _ hk => ⟨hk.1, ⟨hk.2.1, hk.2.2.1⟩⟩)⟩, ⟨by (with_reducible repeat (first | apply Kd.R_alloc | apply Kd.R_drewN | apply Kd.R_drew)); exact Kd.R_mono HO_5.out (fun _ hk => ⟨hk.1, ⟨hk.2.1, hk.2.2.1⟩⟩)⟩, ⟨by (with_reducible repeat (first | apply Kd.R_alloc | apply Kd.R_drewN | apply Kd.R_drew)); exact Kd.R_mono HO_9.out (fun _ hk => ⟨hk.1, ⟨hk.2.1, hk.2.2.1⟩⟩)⟩, ⟨by repeat (first | (with_reducible first | exact HB.out | apply below_alloc | apply pw_below_drewN | apply below_drew1) | exact HB.out)⟩⟩
                                  · replace c85 := Bool.eq_false_iff.mpr c85
                                    subst c85
                                    have H1 : (some false) = some r := by rw [if_neg (show ¬ (false = true) by decide)] at H; exact H
                                    clear H
                                    have H := H1
                                    clear H1
                                    obtain rfl := Option.some.inj H
                                    obtain ⟨Ao88, co88, eo88⟩ := Kd.R_slice HO_11.out
                                    subst eo88
                                    go_wp2_with (first | ((with_reducible refine gate_callee (f := 52) rfl ?_); refine goesL_ (some 101) rfl rfl Try.func52 (by kernel_rfl) rfl #[.slice Ao9 t250.length co9, .slice Ao88 x11_4.length co88] rfl (by (try simp only [List.map_toArray, List.map_cons, List.map_nil]); first | done | rfl | (simp only [List.length_drop, List.length_take]; rfl)) ?_; (with_reducible refine (impl_CubeHas.calls k4 _ _ t250 _ _ x11_4 true _ ?side1 ?side2 ?side3 ?side4 A51.out).mono ?_); (case side1 => repeat (first | exact (Kd.R_reads' HO_3.out).2.2 | (with_reducible refine Kd.C_alloc ?_ _) | (with_reducible refine Kd.C_drewN ?_ _) | (with_reducible refine Kd.C_drew ?_))); (case side2 => exact (Kd.R_reads' HO_3.out).2.1); (case side3 => repeat (first | exact (Kd.R_reads' HO_11.out).2.2 | (with_reducible refine Kd.C_alloc ?_ _) | (with_reducible refine Kd.C_drewN ?_ _) | (with_reducible refine Kd.C_drew ?_))); (case side4 => exact (Kd.R_reads' HO_11.out).2.1); rintro e w' ⟨rfl, ⟨nd, rfl⟩⟩; refine ⟨_, rfl, ?_⟩) | ((with_reducible refine gate_callee (f := 52) rfl ?_); refine goesL_ (some 104) rfl rfl Try.func52 (by kernel_rfl) rfl #[.slice Ao10 t251.length co10, .slice Ao88 x11_4.length co88] rfl (by (try simp only [List.map_toArray, List.map_cons, List.map_nil]); first | done | rfl | (simp only [List.length_drop, List.length_take]; rfl)) ?_; (with_reducible refine (impl_CubeHas.calls k4 _ _ t251 _ _ x11_4 t286 _ ?side1 ?side2 ?side3 ?side4 A52.out).mono ?_); (case side1 => repeat (first | exact (Kd.R_reads' HO_4.out).2.2 | (with_reducible refine Kd.C_alloc ?_ _) | (with_reducible refine Kd.C_drewN ?_ _) | (with_reducible refine Kd.C_drew ?_))); (case side2 => exact (Kd.R_reads' HO_4.out).2.1); (case side3 => repeat (first | exact (Kd.R_reads' HO_11.out).2.2 | (with_reducible refine Kd.C_alloc ?_ _) | (with_reducible refine Kd.C_drewN ?_ _) | (with_reducible refine Kd.C_drew ?_))); (case side4 => exact (Kd.R_reads' HO_11.out).2.1); rintro e w' ⟨rfl, ⟨nd, rfl⟩⟩; refine ⟨_, rfl, ?_⟩; obtain ⟨Ao89, co89, eo89⟩ := Kd.R_slice HO_9.out; subst eo89) | (go_at_call 52; (with_reducible refine (impl_CubeHas.calls k4 _ _ t264 _ _ x11_4 false _ ?side1 ?side2 ?side3 ?side4 A84.out).mono ?_); (case side1 => repeat (first | exact (Kd.R_reads' HO_9.out).2.2 | (with_reducible refine Kd.C_alloc ?_ _) | (with_reducible refine Kd.C_drewN ?_ _) | (with_reducible refine Kd.C_drew ?_))); (case side2 => exact (Kd.R_reads' HO_9.out).2.1); (case side3 => repeat (first | exact (Kd.R_reads' HO_11.out).2.2 | (with_reducible refine Kd.C_alloc ?_ _) | (with_reducible refine Kd.C_drewN ?_ _) | (with_reducible refine Kd.C_drew ?_))); (case side4 => exact (Kd.R_reads' HO_11.out).2.1); rintro e w' ⟨rfl, ⟨nd, rfl⟩⟩))
                                    go_ret
                                    exact ⟨by first | rfl | (simp [errW_none, errW_some] <;> rfl) | (simp only [← hji42]; first | rfl | (simp [errW_none, errW_some] <;> rfl)) | (simp [*, errW_none, errW_some] <;> rfl), by repeat (first | (with_reducible first | exact HB.out | apply below_alloc | apply pw_below_drewN | apply below_drew1) | exact HB.out)⟩
                              · replace c81 := Bool.eq_false_iff.mpr c81
                                subst c81
                                have H1 : (if (false != false) = true then (some false) else (if t286 = true then ((impl_CubeHas.f k4 t264 x11_4).bind fun t291 => (if t291 = true then (laws_FnCubeMeet.l0 k4 t250 t251 t256 false t264 ji42 (wrap64 (x82_3 + 1))) else (some false))) else (laws_FnCubeMeet.l0 k4 t250 t251 t256 false t264 ji42 (wrap64 (x82_3 + 1))))) = some r := by rw [if_neg (show ¬ (false = true) by decide)] at H; exact H
                                clear H
                                have H := H1
                                clear H1
                                by_cases c90 : (false != false) = true
                                · exact absurd c90 (by decide)
                                · rw [if_neg c90] at H
                                  have c90b0 : (false != false) = false := by decide
                                  clear c90
                                  by_cases c91 : t286 = true
                                  · subst c91
                                    have H1 : ((impl_CubeHas.f k4 t264 x11_4).bind fun t291 => (if t291 = true then (laws_FnCubeMeet.l0 k4 t250 t251 t256 false t264 ji42 (wrap64 (x82_3 + 1))) else (some false))) = some r := by rw [if_pos rfl] at H; exact H
                                    clear H
                                    have H := H1
                                    clear H1
                                    replace H := Option.bind_eq_some_iff.mp H
                                    obtain ⟨t291, A920, H⟩ := H
                                    replace H : (if t291 = true then (laws_FnCubeMeet.l0 k4 t250 t251 t256 false t264 ji42 (wrap64 (x82_3 + 1))) else (some false)) = some r := H
                                    have A92 := Aside0.mk A920
                                    clear A920
                                    by_cases c93 : t291 = true
                                    · subst c93
                                      have H1 : (laws_FnCubeMeet.l0 k4 t250 t251 t256 false t264 ji42 (wrap64 (x82_3 + 1))) = some r := by rw [if_pos rfl] at H; exact H
                                      clear H
                                      have H := H1
                                      clear H1
                                      have H' := Aside0.mk H
                                      clear H
                                      obtain ⟨Ao94, co94, eo94⟩ := Kd.R_slice HO_11.out
                                      subst eo94
                                      go_wp2_with (first | ((with_reducible refine gate_callee (f := 52) rfl ?_); refine goesL_ (some 101) rfl rfl Try.func52 (by kernel_rfl) rfl #[.slice Ao9 t250.length co9, .slice Ao94 x11_4.length co94] rfl (by (try simp only [List.map_toArray, List.map_cons, List.map_nil]); first | done | rfl | (simp only [List.length_drop, List.length_take]; rfl)) ?_; (with_reducible refine (impl_CubeHas.calls k4 _ _ t250 _ _ x11_4 false _ ?side1 ?side2 ?side3 ?side4 A51.out).mono ?_); (case side1 => repeat (first | exact (Kd.R_reads' HO_3.out).2.2 | (with_reducible refine Kd.C_alloc ?_ _) | (with_reducible refine Kd.C_drewN ?_ _) | (with_reducible refine Kd.C_drew ?_))); (case side2 => exact (Kd.R_reads' HO_3.out).2.1); (case side3 => repeat (first | exact (Kd.R_reads' HO_11.out).2.2 | (with_reducible refine Kd.C_alloc ?_ _) | (with_reducible refine Kd.C_drewN ?_ _) | (with_reducible refine Kd.C_drew ?_))); (case side4 => exact (Kd.R_reads' HO_11.out).2.1); rintro e w' ⟨rfl, ⟨nd, rfl⟩⟩; refine ⟨_, rfl, ?_⟩) | ((with_reducible refine gate_callee (f := 52) rfl ?_); refine goesL_ (some 104) rfl rfl Try.func52 (by kernel_rfl) rfl #[.slice Ao10 t251.length co10, .slice Ao94 x11_4.length co94] rfl (by (try simp only [List.map_toArray, List.map_cons, List.map_nil]); first | done | rfl | (simp only [List.length_drop, List.length_take]; rfl)) ?_; (with_reducible refine (impl_CubeHas.calls k4 _ _ t251 _ _ x11_4 true _ ?side1 ?side2 ?side3 ?side4 A52.out).mono ?_); (case side1 => repeat (first | exact (Kd.R_reads' HO_4.out).2.2 | (with_reducible refine Kd.C_alloc ?_ _) | (with_reducible refine Kd.C_drewN ?_ _) | (with_reducible refine Kd.C_drew ?_))); (case side2 => exact (Kd.R_reads' HO_4.out).2.1); (case side3 => repeat (first | exact (Kd.R_reads' HO_11.out).2.2 | (with_reducible refine Kd.C_alloc ?_ _) | (with_reducible refine Kd.C_drewN ?_ _) | (with_reducible refine Kd.C_drew ?_))); (case side4 => exact (Kd.R_reads' HO_11.out).2.1); rintro e w' ⟨rfl, ⟨nd, rfl⟩⟩; refine ⟨_, rfl, ?_⟩; obtain ⟨Ao95, co95, eo95⟩ := Kd.R_slice HO_9.out; subst eo95) | (go_at_call 52; (with_reducible refine (impl_CubeHas.calls k4 _ _ t264 _ _ x11_4 true _ ?side1 ?side2 ?side3 ?side4 A92.out).mono ?_); (case side1 => repeat (first | exact (Kd.R_reads' HO_9.out).2.2 | (with_reducible refine Kd.C_alloc ?_ _) | (with_reducible refine Kd.C_drewN ?_ _) | (with_reducible refine Kd.C_drew ?_))); (case side2 => exact (Kd.R_reads' HO_9.out).2.1); (case side3 => repeat (first | exact (Kd.R_reads' HO_11.out).2.2 | (with_reducible refine Kd.C_alloc ?_ _) | (with_reducible refine Kd.C_drewN ?_ _) | (with_reducible refine Kd.C_drew ?_))); (case side4 => exact (Kd.R_reads' HO_11.out).2.1); rintro e w' ⟨rfl, ⟨nd, rfl⟩⟩))
                                      go_roundg k4
                                      case measure => have := HJ6.out; have := HJ34.out; have := HK3.out; have := HK4.out; omega
                                      case rel => exact ⟨(wrap64 (x82_3 + 1)), (by first | rfl | (simp; done) | (simp [*]; done)), H', ⟨by have := HJ6.out; have := HJ34.out; have := HK3.out; have := HK4.out; omega⟩, ⟨by (with_reducible repeat (first | apply Kd.R_alloc | apply Kd.R_drewN | apply Kd.R_drew)); exact Kd.R_mono HO_3.out (fun _ hk => ⟨hk.1, ⟨hk.2.1, hk.2.2.1⟩⟩)⟩, ⟨by (with_reducible repeat (first | apply Kd.R_alloc | apply Kd.R_drewN | apply Kd.R_drew)); exact Kd.R_mono HO_4.out (fun _ hk => ⟨hk.1, ⟨hk.2.1, hk.2.2.1⟩⟩)⟩, ⟨by (with_reducible repeat (first | apply Kd.R_alloc | apply Kd.R_drewN | apply Kd.R_drew)); exact Kd.R_mono HO_5.out (fun _ hk => ⟨hk.1, ⟨hk.2.1, hk.2.2.1⟩⟩)⟩, ⟨by (with_reducible repeat (first | apply Kd.R_alloc | apply Kd.R_drewN | apply Kd.R_drew)); exact Kd.R_mono HO_9.out (fun _ hk => ⟨hk.1, ⟨hk.2.1, hk.2.2.1⟩⟩)⟩, ⟨by repeat (first | (with_reducible first | exact HB.out | apply below_alloc | apply pw_below_drewN | apply below_drew1) | exact HB.out)⟩⟩
                                    · replace c93 := Bool.eq_false_iff.mpr c93
                                      subst c93
                                      have H1 : (some false) = some r := by rw [if_neg (show ¬ (false = true) by decide)] at H; exact H
                                      clear H
                                      have H := H1
                                      clear H1
                                      obtain rfl := Option.some.inj H
                                      obtain ⟨Ao96, co96, eo96⟩ := Kd.R_slice HO_11.out
                                      subst eo96
                                      go_wp2_with (first | ((with_reducible refine gate_callee (f := 52) rfl ?_); refine goesL_ (some 101) rfl rfl Try.func52 (by kernel_rfl) rfl #[.slice Ao9 t250.length co9, .slice Ao96 x11_4.length co96] rfl (by (try simp only [List.map_toArray, List.map_cons, List.map_nil]); first | done | rfl | (simp only [List.length_drop, List.length_take]; rfl)) ?_; (with_reducible refine (impl_CubeHas.calls k4 _ _ t250 _ _ x11_4 false _ ?side1 ?side2 ?side3 ?side4 A51.out).mono ?_); (case side1 => repeat (first | exact (Kd.R_reads' HO_3.out).2.2 | (with_reducible refine Kd.C_alloc ?_ _) | (with_reducible refine Kd.C_drewN ?_ _) | (with_reducible refine Kd.C_drew ?_))); (case side2 => exact (Kd.R_reads' HO_3.out).2.1); (case side3 => repeat (first | exact (Kd.R_reads' HO_11.out).2.2 | (with_reducible refine Kd.C_alloc ?_ _) | (with_reducible refine Kd.C_drewN ?_ _) | (with_reducible refine Kd.C_drew ?_))); (case side4 => exact (Kd.R_reads' HO_11.out).2.1); rintro e w' ⟨rfl, ⟨nd, rfl⟩⟩; refine ⟨_, rfl, ?_⟩) | ((with_reducible refine gate_callee (f := 52) rfl ?_); refine goesL_ (some 104) rfl rfl Try.func52 (by kernel_rfl) rfl #[.slice Ao10 t251.length co10, .slice Ao96 x11_4.length co96] rfl (by (try simp only [List.map_toArray, List.map_cons, List.map_nil]); first | done | rfl | (simp only [List.length_drop, List.length_take]; rfl)) ?_; (with_reducible refine (impl_CubeHas.calls k4 _ _ t251 _ _ x11_4 true _ ?side1 ?side2 ?side3 ?side4 A52.out).mono ?_); (case side1 => repeat (first | exact (Kd.R_reads' HO_4.out).2.2 | (with_reducible refine Kd.C_alloc ?_ _) | (with_reducible refine Kd.C_drewN ?_ _) | (with_reducible refine Kd.C_drew ?_))); (case side2 => exact (Kd.R_reads' HO_4.out).2.1); (case side3 => repeat (first | exact (Kd.R_reads' HO_11.out).2.2 | (with_reducible refine Kd.C_alloc ?_ _) | (with_reducible refine Kd.C_drewN ?_ _) | (with_reducible refine Kd.C_drew ?_))); (case side4 => exact (Kd.R_reads' HO_11.out).2.1); rintro e w' ⟨rfl, ⟨nd, rfl⟩⟩; refine ⟨_, rfl, ?_⟩; obtain ⟨Ao97, co97, eo97⟩ := Kd.R_slice HO_9.out; subst eo97) | (go_at_call 52; (with_reducible refine (impl_CubeHas.calls k4 _ _ t264 _ _ x11_4 false _ ?side1 ?side2 ?side3 ?side4 A92.out).mono ?_); (case side1 => repeat (first | exact (Kd.R_reads' HO_9.out).2.2 | (with_reducible refine Kd.C_alloc ?_ _) | (with_reducible refine Kd.C_drewN ?_ _) | (with_reducible refine Kd.C_drew ?_))); (case side2 => exact (Kd.R_reads' HO_9.out).2.1); (case side3 => repeat (first | exact (Kd.R_reads' HO_11.out).2.2 | (with_reducible refine Kd.C_alloc ?_ _) | (with_reducible refine Kd.C_drewN ?_ _) | (with_reducible refine Kd.C_drew ?_))); (case side4 => exact (Kd.R_reads' HO_11.out).2.1); rintro e w' ⟨rfl, ⟨nd, rfl⟩⟩))
                                      go_ret
                                      exact ⟨by first | rfl | (simp [errW_none, errW_some] <;> rfl) | (simp only [← hji42]; first | rfl | (simp [errW_none, errW_some] <;> rfl)) | (simp [*, errW_none, errW_some] <;> rfl), by repeat (first | (with_reducible first | exact HB.out | apply below_alloc | apply pw_below_drewN | apply below_drew1) | exact HB.out)⟩
                                  · replace c91 := Bool.eq_false_iff.mpr c91
                                    subst c91
                                    have H1 : (laws_FnCubeMeet.l0 k4 t250 t251 t256 false t264 ji42 (wrap64 (x82_3 + 1))) = some r := by rw [if_neg (show ¬ (false = true) by decide)] at H; exact H
                                    clear H
                                    have H := H1
                                    clear H1
                                    have H' := Aside0.mk H
                                    clear H
                                    obtain ⟨Ao98, co98, eo98⟩ := Kd.R_slice HO_11.out
                                    subst eo98
                                    go_wp2_with (first | ((with_reducible refine gate_callee (f := 52) rfl ?_); refine goesL_ (some 101) rfl rfl Try.func52 (by kernel_rfl) rfl #[.slice Ao9 t250.length co9, .slice Ao98 x11_4.length co98] rfl (by (try simp only [List.map_toArray, List.map_cons, List.map_nil]); first | done | rfl | (simp only [List.length_drop, List.length_take]; rfl)) ?_; (with_reducible refine (impl_CubeHas.calls k4 _ _ t250 _ _ x11_4 false _ ?side1 ?side2 ?side3 ?side4 A51.out).mono ?_); (case side1 => repeat (first | exact (Kd.R_reads' HO_3.out).2.2 | (with_reducible refine Kd.C_alloc ?_ _) | (with_reducible refine Kd.C_drewN ?_ _) | (with_reducible refine Kd.C_drew ?_))); (case side2 => exact (Kd.R_reads' HO_3.out).2.1); (case side3 => repeat (first | exact (Kd.R_reads' HO_11.out).2.2 | (with_reducible refine Kd.C_alloc ?_ _) | (with_reducible refine Kd.C_drewN ?_ _) | (with_reducible refine Kd.C_drew ?_))); (case side4 => exact (Kd.R_reads' HO_11.out).2.1); rintro e w' ⟨rfl, ⟨nd, rfl⟩⟩; refine ⟨_, rfl, ?_⟩) | ((with_reducible refine gate_callee (f := 52) rfl ?_); refine goesL_ (some 104) rfl rfl Try.func52 (by kernel_rfl) rfl #[.slice Ao10 t251.length co10, .slice Ao98 x11_4.length co98] rfl (by (try simp only [List.map_toArray, List.map_cons, List.map_nil]); first | done | rfl | (simp only [List.length_drop, List.length_take]; rfl)) ?_; (with_reducible refine (impl_CubeHas.calls k4 _ _ t251 _ _ x11_4 false _ ?side1 ?side2 ?side3 ?side4 A52.out).mono ?_); (case side1 => repeat (first | exact (Kd.R_reads' HO_4.out).2.2 | (with_reducible refine Kd.C_alloc ?_ _) | (with_reducible refine Kd.C_drewN ?_ _) | (with_reducible refine Kd.C_drew ?_))); (case side2 => exact (Kd.R_reads' HO_4.out).2.1); (case side3 => repeat (first | exact (Kd.R_reads' HO_11.out).2.2 | (with_reducible refine Kd.C_alloc ?_ _) | (with_reducible refine Kd.C_drewN ?_ _) | (with_reducible refine Kd.C_drew ?_))); (case side4 => exact (Kd.R_reads' HO_11.out).2.1); rintro e w' ⟨rfl, ⟨nd, rfl⟩⟩; refine ⟨_, rfl, ?_⟩))
                                    go_roundg k4
                                    case measure => have := HJ6.out; have := HJ34.out; have := HK3.out; have := HK4.out; omega
                                    case rel => exact ⟨(wrap64 (x82_3 + 1)), (by first | rfl | (simp; done) | (simp [*]; done)), H', ⟨by have := HJ6.out; have := HJ34.out; have := HK3.out; have := HK4.out; omega⟩, ⟨by (with_reducible repeat (first | apply Kd.R_alloc | apply Kd.R_drewN | apply Kd.R_drew)); exact Kd.R_mono HO_3.out (fun _ hk => ⟨hk.1, ⟨hk.2.1, hk.2.2.1⟩⟩)⟩, ⟨by (with_reducible repeat (first | apply Kd.R_alloc | apply Kd.R_drewN | apply Kd.R_drew)); exact Kd.R_mono HO_4.out (fun _ hk => ⟨hk.1, ⟨hk.2.1, hk.2.2.1⟩⟩)⟩, ⟨by (with_reducible repeat (first | apply Kd.R_alloc | apply Kd.R_drewN | apply Kd.R_drew)); exact Kd.R_mono HO_5.out (fun _ hk => ⟨hk.1, ⟨hk.2.1, hk.2.2.1⟩⟩)⟩, ⟨by (with_reducible repeat (first | apply Kd.R_alloc | apply Kd.R_drewN | apply Kd.R_drew)); exact Kd.R_mono HO_9.out (fun _ hk => ⟨hk.1, ⟨hk.2.1, hk.2.2.1⟩⟩)⟩, ⟨by repeat (first | (with_reducible first | exact HB.out | apply below_alloc | apply pw_below_drewN | apply below_drew1) | exact HB.out)⟩⟩
                    · rw [if_neg c43] at H
                      have c43b0 : decide (x82_3 < ji42) = false := decide_eq_false c43
                      clear c43
                      replace H := Option.bind_eq_some_iff.mp H
                      obtain ⟨t276, A990, H⟩ := H
                      replace H : (if t276 = true then ((impl_CubeInside.f k3 t251 t264).bind fun t277 => (if t277 = true then (if t257 = true then ((impl_CubeInside.f k3 t256 t250).bind fun t278 => (some t278)) else (some true)) else (some false))) else (some false)) = some r := H
                      have A99 := Aside0.mk A990
                      clear A990
                      by_cases c100 : t276 = true
                      · subst c100
                        have H1 : ((impl_CubeInside.f k3 t251 t264).bind fun t277 => (if t277 = true then (if t257 = true then ((impl_CubeInside.f k3 t256 t250).bind fun t278 => (some t278)) else (some true)) else (some false))) = some r := by rw [if_pos rfl] at H; exact H
                        clear H
                        have H := H1
                        clear H1
                        replace H := Option.bind_eq_some_iff.mp H
                        obtain ⟨t277, A1010, H⟩ := H
                        replace H : (if t277 = true then (if t257 = true then ((impl_CubeInside.f k3 t256 t250).bind fun t278 => (some t278)) else (some true)) else (some false)) = some r := H
                        have A101 := Aside0.mk A1010
                        clear A1010
                        by_cases c102 : t277 = true
                        · subst c102
                          have H1 : (if t257 = true then ((impl_CubeInside.f k3 t256 t250).bind fun t278 => (some t278)) else (some true)) = some r := by rw [if_pos rfl] at H; exact H
                          clear H
                          have H := H1
                          clear H1
                          by_cases c103 : t257 = true
                          · subst c103
                            have H1 : ((impl_CubeInside.f k3 t256 t250).bind fun t278 => (some t278)) = some r := by rw [if_pos rfl] at H; exact H
                            clear H
                            have H := H1
                            clear H1
                            replace H := Option.bind_eq_some_iff.mp H
                            obtain ⟨t278, A1040, H⟩ := H
                            replace H : (some t278) = some r := H
                            have A104 := Aside0.mk A1040
                            clear A1040
                            obtain rfl := Option.some.inj H
                            obtain ⟨Ao105, co105, eo105⟩ := Kd.R_slice HO_9.out
                            subst eo105
                            go_wp2_with (first | ((with_reducible refine gate_callee (f := 53) rfl ?_); refine goesL_ (some 131) rfl rfl Try.func53 (by kernel_rfl) rfl #[.slice Ao9 t250.length co9, .slice Ao105 t264.length co105] rfl (by (try simp only [List.map_toArray, List.map_cons, List.map_nil]); first | done | rfl | (simp only [List.length_drop, List.length_take]; rfl)) ?_; (with_reducible refine (impl_CubeInside.calls k3 _ _ t250 _ _ t264 true _ ?side1 ?side2 ?side3 ?side4 A99.out).mono ?_); (case side1 => repeat (first | exact (Kd.R_reads' HO_3.out).2.2 | (with_reducible refine Kd.C_alloc ?_ _) | (with_reducible refine Kd.C_drewN ?_ _) | (with_reducible refine Kd.C_drew ?_))); (case side2 => exact (Kd.R_reads' HO_3.out).2.1); (case side3 => repeat (first | exact (Kd.R_reads' HO_9.out).2.2 | (with_reducible refine Kd.C_alloc ?_ _) | (with_reducible refine Kd.C_drewN ?_ _) | (with_reducible refine Kd.C_drew ?_))); (case side4 => exact (Kd.R_reads' HO_9.out).2.1); rintro e w' ⟨rfl, ⟨nd, rfl⟩⟩; refine ⟨_, rfl, ?_⟩) | (go_at_call 53; (with_reducible refine (impl_CubeInside.calls k3 _ _ t251 _ _ t264 true _ ?side1 ?side2 ?side3 ?side4 A101.out).mono ?_); (case side1 => repeat (first | exact (Kd.R_reads' HO_4.out).2.2 | (with_reducible refine Kd.C_alloc ?_ _) | (with_reducible refine Kd.C_drewN ?_ _) | (with_reducible refine Kd.C_drew ?_))); (case side2 => exact (Kd.R_reads' HO_4.out).2.1); (case side3 => repeat (first | exact (Kd.R_reads' HO_9.out).2.2 | (with_reducible refine Kd.C_alloc ?_ _) | (with_reducible refine Kd.C_drewN ?_ _) | (with_reducible refine Kd.C_drew ?_))); (case side4 => exact (Kd.R_reads' HO_9.out).2.1); rintro e w' ⟨rfl, ⟨nd, rfl⟩⟩; obtain ⟨Ao106, co106, eo106⟩ := Kd.R_slice HO_5.out; subst eo106) | (go_at_call 53; (with_reducible refine (impl_CubeInside.calls k3 _ _ t256 _ _ t250 t278 _ ?side1 ?side2 ?side3 ?side4 A104.out).mono ?_); (case side1 => repeat (first | exact (Kd.R_reads' HO_5.out).2.2 | (with_reducible refine Kd.C_alloc ?_ _) | (with_reducible refine Kd.C_drewN ?_ _) | (with_reducible refine Kd.C_drew ?_))); (case side2 => exact (Kd.R_reads' HO_5.out).2.1); (case side3 => repeat (first | exact (Kd.R_reads' HO_3.out).2.2 | (with_reducible refine Kd.C_alloc ?_ _) | (with_reducible refine Kd.C_drewN ?_ _) | (with_reducible refine Kd.C_drew ?_))); (case side4 => exact (Kd.R_reads' HO_3.out).2.1); rintro e w' ⟨rfl, ⟨nd, rfl⟩⟩))
                            go_ret
                            exact ⟨by first | rfl | (simp [errW_none, errW_some] <;> rfl) | (simp only [← hji42]; first | rfl | (simp [errW_none, errW_some] <;> rfl)) | (simp [*, errW_none, errW_some] <;> rfl), by repeat (first | (with_reducible first | exact HB.out | apply below_alloc | apply pw_below_drewN | apply below_drew1) | exact HB.out)⟩
                          · replace c103 := Bool.eq_false_iff.mpr c103
                            subst c103
                            have H1 : (some true) = some r := by rw [if_neg (show ¬ (false = true) by decide)] at H; exact H
                            clear H
                            have H := H1
                            clear H1
                            obtain rfl := Option.some.inj H
                            obtain ⟨Ao107, co107, eo107⟩ := Kd.R_slice HO_9.out
                            subst eo107
                            go_wp2_with (first | ((with_reducible refine gate_callee (f := 53) rfl ?_); refine goesL_ (some 131) rfl rfl Try.func53 (by kernel_rfl) rfl #[.slice Ao9 t250.length co9, .slice Ao107 t264.length co107] rfl (by (try simp only [List.map_toArray, List.map_cons, List.map_nil]); first | done | rfl | (simp only [List.length_drop, List.length_take]; rfl)) ?_; (with_reducible refine (impl_CubeInside.calls k3 _ _ t250 _ _ t264 true _ ?side1 ?side2 ?side3 ?side4 A99.out).mono ?_); (case side1 => repeat (first | exact (Kd.R_reads' HO_3.out).2.2 | (with_reducible refine Kd.C_alloc ?_ _) | (with_reducible refine Kd.C_drewN ?_ _) | (with_reducible refine Kd.C_drew ?_))); (case side2 => exact (Kd.R_reads' HO_3.out).2.1); (case side3 => repeat (first | exact (Kd.R_reads' HO_9.out).2.2 | (with_reducible refine Kd.C_alloc ?_ _) | (with_reducible refine Kd.C_drewN ?_ _) | (with_reducible refine Kd.C_drew ?_))); (case side4 => exact (Kd.R_reads' HO_9.out).2.1); rintro e w' ⟨rfl, ⟨nd, rfl⟩⟩; refine ⟨_, rfl, ?_⟩) | (go_at_call 53; (with_reducible refine (impl_CubeInside.calls k3 _ _ t251 _ _ t264 true _ ?side1 ?side2 ?side3 ?side4 A101.out).mono ?_); (case side1 => repeat (first | exact (Kd.R_reads' HO_4.out).2.2 | (with_reducible refine Kd.C_alloc ?_ _) | (with_reducible refine Kd.C_drewN ?_ _) | (with_reducible refine Kd.C_drew ?_))); (case side2 => exact (Kd.R_reads' HO_4.out).2.1); (case side3 => repeat (first | exact (Kd.R_reads' HO_9.out).2.2 | (with_reducible refine Kd.C_alloc ?_ _) | (with_reducible refine Kd.C_drewN ?_ _) | (with_reducible refine Kd.C_drew ?_))); (case side4 => exact (Kd.R_reads' HO_9.out).2.1); rintro e w' ⟨rfl, ⟨nd, rfl⟩⟩))
                            go_ret
                            exact ⟨by first | rfl | (simp [errW_none, errW_some] <;> rfl) | (simp only [← hji42]; first | rfl | (simp [errW_none, errW_some] <;> rfl)) | (simp [*, errW_none, errW_some] <;> rfl), by repeat (first | (with_reducible first | exact HB.out | apply below_alloc | apply pw_below_drewN | apply below_drew1) | exact HB.out)⟩
                        · replace c102 := Bool.eq_false_iff.mpr c102
                          subst c102
                          have H1 : (some false) = some r := by rw [if_neg (show ¬ (false = true) by decide)] at H; exact H
                          clear H
                          have H := H1
                          clear H1
                          obtain rfl := Option.some.inj H
                          obtain ⟨Ao108, co108, eo108⟩ := Kd.R_slice HO_9.out
                          subst eo108
                          go_wp2_with (first | ((with_reducible refine gate_callee (f := 53) rfl ?_); refine goesL_ (some 131) rfl rfl Try.func53 (by kernel_rfl) rfl #[.slice Ao9 t250.length co9, .slice Ao108 t264.length co108] rfl (by (try simp only [List.map_toArray, List.map_cons, List.map_nil]); first | done | rfl | (simp only [List.length_drop, List.length_take]; rfl)) ?_; (with_reducible refine (impl_CubeInside.calls k3 _ _ t250 _ _ t264 true _ ?side1 ?side2 ?side3 ?side4 A99.out).mono ?_); (case side1 => repeat (first | exact (Kd.R_reads' HO_3.out).2.2 | (with_reducible refine Kd.C_alloc ?_ _) | (with_reducible refine Kd.C_drewN ?_ _) | (with_reducible refine Kd.C_drew ?_))); (case side2 => exact (Kd.R_reads' HO_3.out).2.1); (case side3 => repeat (first | exact (Kd.R_reads' HO_9.out).2.2 | (with_reducible refine Kd.C_alloc ?_ _) | (with_reducible refine Kd.C_drewN ?_ _) | (with_reducible refine Kd.C_drew ?_))); (case side4 => exact (Kd.R_reads' HO_9.out).2.1); rintro e w' ⟨rfl, ⟨nd, rfl⟩⟩; refine ⟨_, rfl, ?_⟩) | (go_at_call 53; (with_reducible refine (impl_CubeInside.calls k3 _ _ t251 _ _ t264 false _ ?side1 ?side2 ?side3 ?side4 A101.out).mono ?_); (case side1 => repeat (first | exact (Kd.R_reads' HO_4.out).2.2 | (with_reducible refine Kd.C_alloc ?_ _) | (with_reducible refine Kd.C_drewN ?_ _) | (with_reducible refine Kd.C_drew ?_))); (case side2 => exact (Kd.R_reads' HO_4.out).2.1); (case side3 => repeat (first | exact (Kd.R_reads' HO_9.out).2.2 | (with_reducible refine Kd.C_alloc ?_ _) | (with_reducible refine Kd.C_drewN ?_ _) | (with_reducible refine Kd.C_drew ?_))); (case side4 => exact (Kd.R_reads' HO_9.out).2.1); rintro e w' ⟨rfl, ⟨nd, rfl⟩⟩))
                          go_ret
                          exact ⟨by first | rfl | (simp [errW_none, errW_some] <;> rfl) | (simp only [← hji42]; first | rfl | (simp [errW_none, errW_some] <;> rfl)) | (simp [*, errW_none, errW_some] <;> rfl), by repeat (first | (with_reducible first | exact HB.out | apply below_alloc | apply pw_below_drewN | apply below_drew1) | exact HB.out)⟩
                      · replace c100 := Bool.eq_false_iff.mpr c100
                        subst c100
                        have H1 : (some false) = some r := by rw [if_neg (show ¬ (false = true) by decide)] at H; exact H
                        clear H
                        have H := H1
                        clear H1
                        obtain rfl := Option.some.inj H
                        obtain ⟨Ao109, co109, eo109⟩ := Kd.R_slice HO_9.out
                        subst eo109
                        go_wp2_with (first | ((with_reducible refine gate_callee (f := 53) rfl ?_); refine goesL_ (some 131) rfl rfl Try.func53 (by kernel_rfl) rfl #[.slice Ao9 t250.length co9, .slice Ao109 t264.length co109] rfl (by (try simp only [List.map_toArray, List.map_cons, List.map_nil]); first | done | rfl | (simp only [List.length_drop, List.length_take]; rfl)) ?_; (with_reducible refine (impl_CubeInside.calls k3 _ _ t250 _ _ t264 false _ ?side1 ?side2 ?side3 ?side4 A99.out).mono ?_); (case side1 => repeat (first | exact (Kd.R_reads' HO_3.out).2.2 | (with_reducible refine Kd.C_alloc ?_ _) | (with_reducible refine Kd.C_drewN ?_ _) | (with_reducible refine Kd.C_drew ?_))); (case side2 => exact (Kd.R_reads' HO_3.out).2.1); (case side3 => repeat (first | exact (Kd.R_reads' HO_9.out).2.2 | (with_reducible refine Kd.C_alloc ?_ _) | (with_reducible refine Kd.C_drewN ?_ _) | (with_reducible refine Kd.C_drew ?_))); (case side4 => exact (Kd.R_reads' HO_9.out).2.1); rintro e w' ⟨rfl, ⟨nd, rfl⟩⟩; refine ⟨_, rfl, ?_⟩))
                        go_ret
                        exact ⟨by first | rfl | (simp [errW_none, errW_some] <;> rfl) | (simp only [← hji42]; first | rfl | (simp [errW_none, errW_some] <;> rfl)) | (simp [*, errW_none, errW_some] <;> rfl), by repeat (first | (with_reducible first | exact HB.out | apply below_alloc | apply pw_below_drewN | apply below_drew1) | exact HB.out)⟩

/-- THE ONE PURE STATEMENT of laws_FnCubeMeet: yours. -/
def laws_FnCubeMeet.Pure : Prop := ∀ (l0 : List Int), l0.length ≤ maxLen → l0.length * 1 ≤ 140737488351232 → (∀ x ∈ l0, (Lit.int .u8 x).wf = true) → ∃ k, laws_FnCubeMeet.f k l0 = some true
theorem laws_FnCubeMeet.walk (P : laws_FnCubeMeet.Pure) (a0 : Option Addr) (len0 cap0 : Nat) (z0 : List Int) (w : World) (w0 : (a0 = none ∧ len0 = 0 ∧ cap0 = 0 ∧ z0 = []) ∨ ∃ x, a0 = some x ∧ len0 ≤ cap0 ∧ cap0 ≤ maxLen ∧ z0.length = cap0 ∧ (∀ i, i < z0.length → w.cell? (x.add i) = some (.int .u8 (z0.getD i 0))) ∧ ∀ n ∈ z0, (Lit.int .u8 n).wf = true) (y0 : len0 * 1 ≤ 140737488351232) :
    Calls Try.prog 8 #[.slice a0 len0 cap0] w fun e w' => e = .returned (.bool true) ∧ Below w.heap.size w w' := by
  obtain ⟨l0, rfl, hr0, hm0, hw0, hc0⟩ := ReadsInt.ofRowC w0
  obtain ⟨k, h⟩ := P l0 hm0 y0 hw0
  refine (laws_FnCubeMeet.calls k _ _ l0 true w (Kd.C_of_reads (d := (0 : Int)) (h1 := fun _ => rfl) hr0) hc0 h).mono ?_
  rintro e w' ⟨rfl, hd⟩
  exact ⟨rfl, hd⟩

end Go.Proofs.Ytbjkjoicecmmpac.XFnCubeMeet
