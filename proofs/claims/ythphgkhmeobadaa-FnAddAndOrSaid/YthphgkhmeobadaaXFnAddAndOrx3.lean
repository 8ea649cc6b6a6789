/- Printed by a program of this session out of the translation: the Go functions that a law uses as plain Lean functions, with the proofs of their calls, or the law's row.
Conditions: those that each theorem states. -/
import Derived.Test.YthphgkhmeobadaaXFnAddAndOrx0
import Derived.Test.YthphgkhmeobadaaXFnAddAndOrx1
import Derived.Test.YthphgkhmeobadaaXFnAddAndOrx2
namespace Go.Proofs.Ythphgkhmeobadaa.XFnAddAndOr
open Go.RowKit Go.Proofs.YthphgkhmeobadaaW.PrintWords Go.Proofs.YthphgkhmeobadaaW.PrintLast Go.Proofs.YthphgkhmeobadaaW.PrintMore
attribute [local go_sem] max2_int min2_int max_two min_two max_three min_three max_four min_four   -- for this text's walks alone
set_option linter.unusedVariables false
set_option linter.unusedSimpArgs false

/-! ### spec_AddAnd: function 7 -/
def spec_AddAnd.j0 : Nat → Int → Int → Bool → Int → List (S57) → Option (Int × (List (S57)) × Int)
 | 0, _, _, _, _, _ => none
 | k + 1, x1, x2, x24, x131000, x131001 => if x24 = true then (some (0, ([] : List (S57)), (-1))) else ((spec_l7Copy.f k x131000 x131001).bind fun bt135 => ((spec_l7And.f k bt135.1 bt135.2 x1 x2).bind fun bt139 => ((spec_l7Told.f bt139.1 bt139.2.1 bt139.2.2).bind fun bt145 => (some (bt145.1, bt145.2.1, bt145.2.2)))))
def spec_AddAnd.f (k : Nat) (a0_0 : Int) (l0_1 : List (S57)) (a1 : Int) (a2 : Int) : Option (Int × (List (S57)) × Int) := (spec_CircuitValid.f k a0_0 l0_1).bind fun t132 => (if t132 = true then ((spec_l7Edge.f a0_0 l0_1 a1).bind fun t133 => (if t133 = true then ((spec_l7Edge.f a0_0 l0_1 a2).bind fun t134 => (spec_AddAnd.j0 k a1 a2 (!t134) a0_0 l0_1)) else (spec_AddAnd.j0 k a1 a2 true a0_0 l0_1))) else (spec_AddAnd.j0 k a1 a2 true a0_0 l0_1))
theorem spec_AddAnd.mono_l : ∀ k, (∀ y0 y1 y2 y3 y4, LeO (spec_AddAnd.j0 k y0 y1 y2 y3 y4) (spec_AddAnd.j0 (k + 1) y0 y1 y2 y3 y4))
 | 0 => fun _ _ _ _ _ r h => by simp [spec_AddAnd.j0] at h
 | k + 1 => by
  have ih0 := spec_AddAnd.mono_l k
  ·intro y0 y1 y2 y3 y4
   unfold spec_AddAnd.j0
   repeat' first
   | (with_reducible exact ih0 _ _ _ _ _)
   | (with_reducible exact spec_CircuitValid.mono _ _ _)
   | (with_reducible exact spec_l7And.mono _ _ _ _ _)
   | (with_reducible exact spec_l7Copy.mono _ _ _)
   | (with_reducible exact LeO.refl _)
   | (with_reducible exact LeO.none _)
   | (with_reducible refine LeO.ite ?_ ?_)
   | (with_reducible refine LeO.bind ?_ (fun _ => ?_))
   | exact ih0 _ _ _ _ _
   | exact spec_CircuitValid.mono _ _ _
   | exact spec_l7And.mono _ _ _ _ _
   | exact spec_l7Copy.mono _ _ _
   | exact LeO.none _
   | refine LeO.ite ?_ ?_
   | refine LeO.bind ?_ (fun _ => ?_)
theorem spec_AddAnd.mono : ∀ a0 a1 a2 a3 k, LeO (spec_AddAnd.f k a0 a1 a2 a3) (spec_AddAnd.f (k + 1) a0 a1 a2 a3) := by
 intro a0 a1 a2 a3 k
 have ih0 := spec_AddAnd.mono_l k
 unfold spec_AddAnd.f
 repeat' first
   | (with_reducible exact ih0 _ _ _ _ _)
   | (with_reducible exact spec_CircuitValid.mono _ _ _)
   | (with_reducible exact spec_l7And.mono _ _ _ _ _)
   | (with_reducible exact spec_l7Copy.mono _ _ _)
   | (with_reducible exact LeO.refl _)
   | (with_reducible exact LeO.none _)
   | (with_reducible refine LeO.ite ?_ ?_)
   | (with_reducible refine LeO.bind ?_ (fun _ => ?_))
   | exact ih0 _ _ _ _ _
   | exact spec_CircuitValid.mono _ _ _
   | exact spec_l7And.mono _ _ _ _ _
   | exact spec_l7Copy.mono _ _ _
   | exact LeO.none _
   | refine LeO.ite ?_ ?_
   | refine LeO.bind ?_ (fun _ => ?_)
set_option maxHeartbeats 8000000 in
set_option maxRecDepth 100000 in
theorem spec_AddAnd.calls (k : Nat) (a0_0 : Int) (A0_1 : Option Addr) (c0_1 : Nat) (l0_1 : List (S57)) (a1 : Int) (a2 : Int) (r1 : Int) (r2 : List (S57)) (r3 : Int) (w : World) (hr0_1 : Kd.C k57 w A0_1 l0_1.length l0_1) (hc0_1 : l0_1.length ≤ c0_1) (h : spec_AddAnd.f k a0_0 l0_1 a1 a2 = some (r1, r2, r3)) :
  Calls Try.prog 7 #[.agg #[.int .i64 a0_0, .slice A0_1 l0_1.length c0_1], .int .i64 a1, .int .i64 a2] w fun e w' => ∃ v1_ : Value, e = .returned (.tuple #[.agg #[.int .i64 r1, v1_], .int .i64 r3]) ∧ Kd.R k57 57 w' w.heap.size (fun _ => True) v1_ r2 ∧ Below w.heap.size w w' := by
 have hu28 := Try.underlying28
 have HR0_1 := Yj hr0_1
 have HC0_1 := Yj hc0_1
 clear hr0_1 hc0_1
 have HB := Yj (Below.refl w.heap.size w)
 have H : ((spec_CircuitValid.f k a0_0 l0_1).bind fun t132 => (if t132 = true then ((spec_l7Edge.f a0_0 l0_1 a1).bind fun t133 => (if t133 = true then ((spec_l7Edge.f a0_0 l0_1 a2).bind fun t134 => (spec_AddAnd.j0 k a1 a2 (!t134) a0_0 l0_1)) else (spec_AddAnd.j0 k a1 a2 true a0_0 l0_1))) else (spec_AddAnd.j0 k a1 a2 true a0_0 l0_1))) = some (r1, r2, r3) := h
 clear h
 have HC4 := Yj H
 clear H
 go_enter Try.func7, Try.ntmps7
 go_upto_region 1 with (first | ((with_reducible refine gate_dst (N := 3) rfl ?_); refine box_event ?hg (N := 3) ?hd (cs := #[.int .i64 a0_0, .slice A0_1 l0_1.length c0_1]) (t := 28) ?hr ?_; (case hd => rfl); (case hg => rfl); (case hr => first | (go_simp; done) | (go_simp; rfl)); intro gb130 hg w5 hbox hb; have n0_ := Yj (below_step (by repeat (first | (with_reducible first | exact HB.out | apply Yf | apply Yg | apply Yh) | exact HB.out)) hb); have n1_ := Yj (hbox); have n2_ := Yj ((by rw [hg]; exact (below_size (by repeat (first | (with_reducible first | exact HB.out | apply Yf | apply Yg | apply Yh) | exact HB.out))) : w.heap.size ≤ gb130)); have n3_ := Yj ((by rw [hg]; exact (below_size (by repeat (first | (with_reducible first | exact HB.out | apply Yf | apply Yg | apply Yh) | exact HB.out))) : w.heap.size ≤ gb130)); clear HB; have HB := n0_; have BK130 := n1_; have GW130 := n2_; have GE130 := n3_; clear n0_ n1_ n2_ n3_; clear hb hbox hg) | ((with_reducible refine gate_dst (N := 6) rfl ?_); refine box_event ?hg (N := 6) ?hd (cs := #[.int .i64 0, .slice none 0 0]) (t := 28) ?hr ?_; (case hd => rfl); (case hg => rfl); (case hr => first | (go_simp; done) | (go_simp; rfl)); intro gb131 hg w6 hbox hb; have n0_ := Yj (blk_below (g := gb130) (o := .cells #[.int .i64 a0_0, .slice A0_1 l0_1.length c0_1] 28 (0, 0)) (by (with_reducible repeat (first | refine Ya ?_ _ | refine Yb ?_ | refine Yc ?_ _)); exact BK130.out) hb); have n1_ := Yj (below_step (by repeat (first | (with_reducible first | exact HB.out | apply Yf | apply Yg | apply Yh | refine Yi ?_ GE130.out) | exact HB.out)) hb); have n2_ := Yj (hbox); have n3_ := Yj ((by rw [hg]; exact (below_size (by repeat (first | (with_reducible first | exact HB.out | apply Yf | apply Yg | apply Yh | refine Yi ?_ GE130.out) | exact HB.out))) : w.heap.size ≤ gb131)); have n4_ := Yj ((by rw [hg]; exact (below_size (by repeat (first | (with_reducible first | exact HB.out | apply Yf | apply Yg | apply Yh | refine Yi ?_ GE130.out) | exact HB.out))) : w.heap.size ≤ gb131)); have n5_ := Yj ((by rw [hg]; exact Nat.ne_of_lt (blk_lt (g := gb130) (o := .cells #[.int .i64 a0_0, .slice A0_1 l0_1.length c0_1] 28 (0, 0)) (by (with_reducible repeat (first | refine Ya ?_ _ | refine Yb ?_ | refine Yc ?_ _)); exact BK130.out)) : gb130 ≠ gb131)); have n6_ := Yj ((by rw [hg]; exact Nat.ne_of_gt (blk_lt (g := gb130) (o := .cells #[.int .i64 a0_0, .slice A0_1 l0_1.length c0_1] 28 (0, 0)) (by (with_reducible repeat (first | refine Ya ?_ _ | refine Yb ?_ | refine Yc ?_ _)); exact BK130.out)) : gb131 ≠ gb130)); clear BK130; clear HB; have BK130 := n0_; have HB := n1_; have BK131 := n2_; have GW131 := n3_; have GE131 := n4_; have NB130_131 := n5_; have NB131_130 := n6_; clear n0_ n1_ n2_ n3_ n4_ n5_ n6_; clear hb hbox hg))
 (try simp only [Act.put, List.setIfInBounds_toArray, List.set_cons_zero, List.set_cons_succ])
 go_cut [24] (fun v24 wc => ∃ (kq : Nat) (x24_3 : Bool), v24 = .bool x24_3 ∧ Aside0 (spec_AddAnd.j0 kq a1 a2 x24_3 a0_0 l0_1 = some (r1, r2, r3)) ∧ Aside0 (kq ≤ k) ∧ Aside0 (wc.heap[gb130]? = some (.cells #[.int .i64 a0_0, (.slice A0_1 l0_1.length c0_1)] 28 (0, 0))) ∧ Aside0 (wc.heap[gb131]? = some (.cells #[.int .i64 0, (.slice none 0 0)] 28 (0, 0))) ∧ Aside0 (Below w.heap.size w wc))
 case first =>
  have H := HC4.out
  clear HC4
  replace H := Option.bind_eq_some_iff.mp H
  obtain ⟨t132, A70, H⟩ := H
  replace H : (if t132 = true then ((spec_l7Edge.f a0_0 l0_1 a1).bind fun t133 => (if t133 = true then ((spec_l7Edge.f a0_0 l0_1 a2).bind fun t134 => (spec_AddAnd.j0 k a1 a2 (!t134) a0_0 l0_1)) else (spec_AddAnd.j0 k a1 a2 true a0_0 l0_1))) else (spec_AddAnd.j0 k a1 a2 true a0_0 l0_1)) = some (r1, r2, r3) := H
  have A7 := Yj A70
  clear A70
  by_cases c8 : t132 = true
  ·subst c8
   have H1 : ((spec_l7Edge.f a0_0 l0_1 a1).bind fun t133 => (if t133 = true then ((spec_l7Edge.f a0_0 l0_1 a2).bind fun t134 => (spec_AddAnd.j0 k a1 a2 (!t134) a0_0 l0_1)) else (spec_AddAnd.j0 k a1 a2 true a0_0 l0_1))) = some (r1, r2, r3) := by rw [if_pos rfl] at H; exact H
   clear H
   have H := H1
   clear H1
   replace H := Option.bind_eq_some_iff.mp H
   obtain ⟨t133, A90, H⟩ := H
   replace H : (if t133 = true then ((spec_l7Edge.f a0_0 l0_1 a2).bind fun t134 => (spec_AddAnd.j0 k a1 a2 (!t134) a0_0 l0_1)) else (spec_AddAnd.j0 k a1 a2 true a0_0 l0_1)) = some (r1, r2, r3) := H
   have A9 := Yj A90
   clear A90
   by_cases c10 : t133 = true
   ·subst c10
    have H1 : ((spec_l7Edge.f a0_0 l0_1 a2).bind fun t134 => (spec_AddAnd.j0 k a1 a2 (!t134) a0_0 l0_1)) = some (r1, r2, r3) := by rw [if_pos rfl] at H; exact H
    clear H
    have H := H1
    clear H1
    replace H := Option.bind_eq_some_iff.mp H
    obtain ⟨t134, A110, H⟩ := H
    replace H : (spec_AddAnd.j0 k a1 a2 (!t134) a0_0 l0_1) = some (r1, r2, r3) := H
    have A11 := Yj A110
    clear A110
    have H' := Yj H
    clear H
    have hnb12 := NB130_131.out
    have hnc12 := NB131_130.out
    have hcz13_0 : w6.cell? ⟨gb130, 0, none⟩ = some (.int .i64 a0_0) := (Yd BK130.out 0).trans rfl
    have hcz13_1 : w6.cell? ⟨gb130, 1, none⟩ = some (.slice A0_1 l0_1.length c0_1) := (Yd BK130.out 1).trans rfl
    have hfz13_0 := Ye BK130.out 0
    have hfz13_1 := Ye BK130.out 1
    go_wp2_with (first | ((with_reducible refine gate_callee (f := 17) rfl ?_); refine goesL_ (some 11) rfl rfl Try.func17 (by kernel_rfl) rfl #[.agg #[.int .i64 a0_0, .slice A0_1 l0_1.length c0_1]] rfl (by (try simp only [List.map_toArray, List.map_cons, List.map_nil]); first | done | rfl | (simp only [List.length_drop, List.length_take]; rfl)) ?_; (with_reducible refine (spec_CircuitValid.calls k a0_0 _ _ l0_1 true _ ?side1 ?side2 A7.out).mono ?_); (case side1 => repeat (first | exact (Kd.C_below HR0_1.out HB.out) | (with_reducible refine Kd.C_alloc ?_ _) | (with_reducible refine Kd.C_drewN ?_ _) | (with_reducible refine Kd.C_drew ?_))); (case side2 => exact HC0_1.out); rintro e w14 ⟨rfl, hb⟩; refine ⟨_, rfl, ?_⟩; have n0_ := Yj (blk_below (g := gb130) (o := .cells #[.int .i64 a0_0, .slice A0_1 l0_1.length c0_1] 28 (0, 0)) (by (with_reducible repeat (first | refine Ya ?_ _ | refine Yb ?_ | refine Yc ?_ _)); exact BK130.out) hb); have n1_ := Yj (blk_below (g := gb131) (o := .cells #[.int .i64 0, .slice none 0 0] 28 (0, 0)) (by (with_reducible repeat (first | refine Ya ?_ _ | refine Yb ?_ | refine Yc ?_ _)); exact BK131.out) hb); have n2_ := Yj (below_step (by repeat (first | (with_reducible first | exact HB.out | apply Yf | apply Yg | apply Yh | refine Yi ?_ GE130.out | refine Yi ?_ GE131.out) | exact HB.out)) hb); clear BK130; clear BK131; clear HB; have BK130 := n0_; have BK131 := n1_; have HB := n2_; clear n0_ n1_ n2_; (try clear hb); (try clear hb2); (try clear hk); (try clear hi); have hcz15_0 : w14.cell? ⟨gb130, 0, none⟩ = some (.int .i64 a0_0) := (Yd BK130.out 0).trans rfl; have hcz15_1 : w14.cell? ⟨gb130, 1, none⟩ = some (.slice A0_1 l0_1.length c0_1) := (Yd BK130.out 1).trans rfl; have hfz15_0 := Ye BK130.out 0; have hfz15_1 := Ye BK130.out 1) | (go_at_call 18; (with_reducible refine (spec_l7Edge.calls a0_0 _ _ l0_1 a1 true _ ?side1 ?side2 A9.out).mono ?_); (case side1 => repeat (first | exact (Kd.C_below HR0_1.out HB.out) | (with_reducible refine Kd.C_alloc ?_ _) | (with_reducible refine Kd.C_drewN ?_ _) | (with_reducible refine Kd.C_drew ?_))); (case side2 => exact HC0_1.out); rintro e w16 ⟨rfl, hb⟩; have n0_ := Yj (blk_below (g := gb130) (o := .cells #[.int .i64 a0_0, .slice A0_1 l0_1.length c0_1] 28 (0, 0)) (by (with_reducible repeat (first | refine Ya ?_ _ | refine Yb ?_ | refine Yc ?_ _)); exact BK130.out) hb); have n1_ := Yj (blk_below (g := gb131) (o := .cells #[.int .i64 0, .slice none 0 0] 28 (0, 0)) (by (with_reducible repeat (first | refine Ya ?_ _ | refine Yb ?_ | refine Yc ?_ _)); exact BK131.out) hb); have n2_ := Yj (below_step (by repeat (first | (with_reducible first | exact HB.out | apply Yf | apply Yg | apply Yh | refine Yi ?_ GE130.out | refine Yi ?_ GE131.out) | exact HB.out)) hb); clear BK130; clear BK131; clear HB; have BK130 := n0_; have BK131 := n1_; have HB := n2_; clear n0_ n1_ n2_; (try clear hb); (try clear hb2); (try clear hk); (try clear hi); have hcz17_0 : w16.cell? ⟨gb130, 0, none⟩ = some (.int .i64 a0_0) := (Yd BK130.out 0).trans rfl; have hcz17_1 : w16.cell? ⟨gb130, 1, none⟩ = some (.slice A0_1 l0_1.length c0_1) := (Yd BK130.out 1).trans rfl; have hfz17_0 := Ye BK130.out 0; have hfz17_1 := Ye BK130.out 1) | (go_at_call 18; (with_reducible refine (spec_l7Edge.calls a0_0 _ _ l0_1 a2 t134 _ ?side1 ?side2 A11.out).mono ?_); (case side1 => repeat (first | exact (Kd.C_below HR0_1.out HB.out) | (with_reducible refine Kd.C_alloc ?_ _) | (with_reducible refine Kd.C_drewN ?_ _) | (with_reducible refine Kd.C_drew ?_))); (case side2 => exact HC0_1.out); rintro e w18 ⟨rfl, hb⟩; have n0_ := Yj (blk_below (g := gb130) (o := .cells #[.int .i64 a0_0, .slice A0_1 l0_1.length c0_1] 28 (0, 0)) (by (with_reducible repeat (first | refine Ya ?_ _ | refine Yb ?_ | refine Yc ?_ _)); exact BK130.out) hb); have n1_ := Yj (blk_below (g := gb131) (o := .cells #[.int .i64 0, .slice none 0 0] 28 (0, 0)) (by (with_reducible repeat (first | refine Ya ?_ _ | refine Yb ?_ | refine Yc ?_ _)); exact BK131.out) hb); have n2_ := Yj (below_step (by repeat (first | (with_reducible first | exact HB.out | apply Yf | apply Yg | apply Yh | refine Yi ?_ GE130.out | refine Yi ?_ GE131.out) | exact HB.out)) hb); clear BK130; clear BK131; clear HB; have BK130 := n0_; have BK131 := n1_; have HB := n2_; clear n0_ n1_ n2_; (try clear hb); (try clear hb2); (try clear hk); (try clear hi)))
    go_meet
    case rel => exact ⟨_, (!t134), (by first | rfl | (simp; done) | (simp [*]; done)), H', ⟨by first | omega | exact Nat.le_refl _⟩, ⟨by (with_reducible repeat (first | refine Ya ?_ _ | refine Yb ?_ | refine Yc ?_ _)); exact BK130.out⟩, ⟨by (with_reducible repeat (first | refine Ya ?_ _ | refine Yb ?_ | refine Yc ?_ _)); exact BK131.out⟩, ⟨by repeat (first | (with_reducible first | exact HB.out | apply Yf | apply Yg | apply Yh | refine Yi ?_ GE130.out | refine Yi ?_ GE131.out) | exact HB.out)⟩⟩
   ·replace c10 := Bool.eq_false_iff.mpr c10
    subst c10
    have H1 : (spec_AddAnd.j0 k a1 a2 true a0_0 l0_1) = some (r1, r2, r3) := by rw [if_neg (show ¬ (false = true) by decide)] at H; exact H
    clear H
    have H := H1
    clear H1
    have H' := Yj H
    clear H
    have hnb19 := NB130_131.out
    have hnc19 := NB131_130.out
    have hcz20_0 : w6.cell? ⟨gb130, 0, none⟩ = some (.int .i64 a0_0) := (Yd BK130.out 0).trans rfl
    have hcz20_1 : w6.cell? ⟨gb130, 1, none⟩ = some (.slice A0_1 l0_1.length c0_1) := (Yd BK130.out 1).trans rfl
    have hfz20_0 := Ye BK130.out 0
    have hfz20_1 := Ye BK130.out 1
    go_wp2_with (first | ((with_reducible refine gate_callee (f := 17) rfl ?_); refine goesL_ (some 11) rfl rfl Try.func17 (by kernel_rfl) rfl #[.agg #[.int .i64 a0_0, .slice A0_1 l0_1.length c0_1]] rfl (by (try simp only [List.map_toArray, List.map_cons, List.map_nil]); first | done | rfl | (simp only [List.length_drop, List.length_take]; rfl)) ?_; (with_reducible refine (spec_CircuitValid.calls k a0_0 _ _ l0_1 true _ ?side1 ?side2 A7.out).mono ?_); (case side1 => repeat (first | exact (Kd.C_below HR0_1.out HB.out) | (with_reducible refine Kd.C_alloc ?_ _) | (with_reducible refine Kd.C_drewN ?_ _) | (with_reducible refine Kd.C_drew ?_))); (case side2 => exact HC0_1.out); rintro e w21 ⟨rfl, hb⟩; refine ⟨_, rfl, ?_⟩; have n0_ := Yj (blk_below (g := gb130) (o := .cells #[.int .i64 a0_0, .slice A0_1 l0_1.length c0_1] 28 (0, 0)) (by (with_reducible repeat (first | refine Ya ?_ _ | refine Yb ?_ | refine Yc ?_ _)); exact BK130.out) hb); have n1_ := Yj (blk_below (g := gb131) (o := .cells #[.int .i64 0, .slice none 0 0] 28 (0, 0)) (by (with_reducible repeat (first | refine Ya ?_ _ | refine Yb ?_ | refine Yc ?_ _)); exact BK131.out) hb); have n2_ := Yj (below_step (by repeat (first | (with_reducible first | exact HB.out | apply Yf | apply Yg | apply Yh | refine Yi ?_ GE130.out | refine Yi ?_ GE131.out) | exact HB.out)) hb); clear BK130; clear BK131; clear HB; have BK130 := n0_; have BK131 := n1_; have HB := n2_; clear n0_ n1_ n2_; (try clear hb); (try clear hb2); (try clear hk); (try clear hi); have hcz22_0 : w21.cell? ⟨gb130, 0, none⟩ = some (.int .i64 a0_0) := (Yd BK130.out 0).trans rfl; have hcz22_1 : w21.cell? ⟨gb130, 1, none⟩ = some (.slice A0_1 l0_1.length c0_1) := (Yd BK130.out 1).trans rfl; have hfz22_0 := Ye BK130.out 0; have hfz22_1 := Ye BK130.out 1) | (go_at_call 18; (with_reducible refine (spec_l7Edge.calls a0_0 _ _ l0_1 a1 false _ ?side1 ?side2 A9.out).mono ?_); (case side1 => repeat (first | exact (Kd.C_below HR0_1.out HB.out) | (with_reducible refine Kd.C_alloc ?_ _) | (with_reducible refine Kd.C_drewN ?_ _) | (with_reducible refine Kd.C_drew ?_))); (case side2 => exact HC0_1.out); rintro e w23 ⟨rfl, hb⟩; have n0_ := Yj (blk_below (g := gb130) (o := .cells #[.int .i64 a0_0, .slice A0_1 l0_1.length c0_1] 28 (0, 0)) (by (with_reducible repeat (first | refine Ya ?_ _ | refine Yb ?_ | refine Yc ?_ _)); exact BK130.out) hb); have n1_ := Yj (blk_below (g := gb131) (o := .cells #[.int .i64 0, .slice none 0 0] 28 (0, 0)) (by (with_reducible repeat (first | refine Ya ?_ _ | refine Yb ?_ | refine Yc ?_ _)); exact BK131.out) hb); have n2_ := Yj (below_step (by repeat (first | (with_reducible first | exact HB.out | apply Yf | apply Yg | apply Yh | refine Yi ?_ GE130.out | refine Yi ?_ GE131.out) | exact HB.out)) hb); clear BK130; clear BK131; clear HB; have BK130 := n0_; have BK131 := n1_; have HB := n2_; clear n0_ n1_ n2_; (try clear hb); (try clear hb2); (try clear hk); (try clear hi)))
    go_meet
    case rel => exact ⟨_, (true), (by first | rfl | (simp; done) | (simp [*]; done)), H', ⟨by first | omega | exact Nat.le_refl _⟩, ⟨by (with_reducible repeat (first | refine Ya ?_ _ | refine Yb ?_ | refine Yc ?_ _)); exact BK130.out⟩, ⟨by (with_reducible repeat (first | refine Ya ?_ _ | refine Yb ?_ | refine Yc ?_ _)); exact BK131.out⟩, ⟨by repeat (first | (with_reducible first | exact HB.out | apply Yf | apply Yg | apply Yh | refine Yi ?_ GE130.out | refine Yi ?_ GE131.out) | exact HB.out)⟩⟩
  ·replace c8 := Bool.eq_false_iff.mpr c8
   subst c8
   have H1 : (spec_AddAnd.j0 k a1 a2 true a0_0 l0_1) = some (r1, r2, r3) := by rw [if_neg (show ¬ (false = true) by decide)] at H; exact H
   clear H
   have H := H1
   clear H1
   have H' := Yj H
   clear H
   have hnb24 := NB130_131.out
   have hnc24 := NB131_130.out
   have hcz25_0 : w6.cell? ⟨gb130, 0, none⟩ = some (.int .i64 a0_0) := (Yd BK130.out 0).trans rfl
   have hcz25_1 : w6.cell? ⟨gb130, 1, none⟩ = some (.slice A0_1 l0_1.length c0_1) := (Yd BK130.out 1).trans rfl
   have hfz25_0 := Ye BK130.out 0
   have hfz25_1 := Ye BK130.out 1
   go_wp2_with (first | ((with_reducible refine gate_callee (f := 17) rfl ?_); refine goesL_ (some 11) rfl rfl Try.func17 (by kernel_rfl) rfl #[.agg #[.int .i64 a0_0, .slice A0_1 l0_1.length c0_1]] rfl (by (try simp only [List.map_toArray, List.map_cons, List.map_nil]); first | done | rfl | (simp only [List.length_drop, List.length_take]; rfl)) ?_; (with_reducible refine (spec_CircuitValid.calls k a0_0 _ _ l0_1 false _ ?side1 ?side2 A7.out).mono ?_); (case side1 => repeat (first | exact (Kd.C_below HR0_1.out HB.out) | (with_reducible refine Kd.C_alloc ?_ _) | (with_reducible refine Kd.C_drewN ?_ _) | (with_reducible refine Kd.C_drew ?_))); (case side2 => exact HC0_1.out); rintro e w26 ⟨rfl, hb⟩; refine ⟨_, rfl, ?_⟩; have n0_ := Yj (blk_below (g := gb130) (o := .cells #[.int .i64 a0_0, .slice A0_1 l0_1.length c0_1] 28 (0, 0)) (by (with_reducible repeat (first | refine Ya ?_ _ | refine Yb ?_ | refine Yc ?_ _)); exact BK130.out) hb); have n1_ := Yj (blk_below (g := gb131) (o := .cells #[.int .i64 0, .slice none 0 0] 28 (0, 0)) (by (with_reducible repeat (first | refine Ya ?_ _ | refine Yb ?_ | refine Yc ?_ _)); exact BK131.out) hb); have n2_ := Yj (below_step (by repeat (first | (with_reducible first | exact HB.out | apply Yf | apply Yg | apply Yh | refine Yi ?_ GE130.out | refine Yi ?_ GE131.out) | exact HB.out)) hb); clear BK130; clear BK131; clear HB; have BK130 := n0_; have BK131 := n1_; have HB := n2_; clear n0_ n1_ n2_; (try clear hb); (try clear hb2); (try clear hk); (try clear hi)))
   go_meet
   case rel => exact ⟨_, (true), (by first | rfl | (simp; done) | (simp [*]; done)), H', ⟨by first | omega | exact Nat.le_refl _⟩, ⟨by (with_reducible repeat (first | refine Ya ?_ _ | refine Yb ?_ | refine Yc ?_ _)); exact BK130.out⟩, ⟨by (with_reducible repeat (first | refine Ya ?_ _ | refine Yb ?_ | refine Yc ?_ _)); exact BK131.out⟩, ⟨by repeat (first | (with_reducible first | exact HB.out | apply Yf | apply Yg | apply Yh | refine Yi ?_ GE130.out | refine Yi ?_ GE131.out) | exact HB.out)⟩⟩
 case rest =>
  clear HC4
  try clear c1
  try clear c2
  try clear p2
  try clear c7
  try clear c8
  try clear c10
  try clear c12
  try clear c17
  try clear c19
  try clear c24
  try clear hcz13_0
  try clear hcz13_1
  try clear hcz15_0
  try clear hcz15_1
  try clear hcz17_0
  try clear hcz17_1
  try clear hcz20_0
  try clear hcz20_1
  try clear hcz22_0
  try clear hcz22_1
  try clear hcz25_0
  try clear hcz25_1
  try clear hfz13_0
  try clear hfz13_1
  try clear hfz15_0
  try clear hfz15_1
  try clear hfz17_0
  try clear hfz17_1
  try clear hfz20_0
  try clear hfz20_1
  try clear hfz22_0
  try clear hfz22_1
  try clear hfz25_0
  try clear hfz25_1
  obtain ⟨kq, x24_3, rfl, HA, HJ3, BK130, BK131, HB⟩ := hcut
  cases kq with
  | zero => exact absurd HA.out (by simp [spec_AddAnd.j0])
  | succ kj3 =>
   have H := HA.out
   clear HA
   simp only [spec_AddAnd.j0] at H
   by_cases c27 : x24_3 = true
   ·subst c27
    have H1 : (some (0, ([] : List (S57)), (-1))) = some (r1, r2, r3) := by rw [if_pos rfl] at H; exact H
    clear H
    have H := H1
    clear H1
    simp only [Option.some.injEq, Prod.mk.injEq] at H
    obtain ⟨rfl, rfl, rfl⟩ := H
    have hnb28 := NB131_130.out
    have hnc28 := NB130_131.out
    have hcz29_0 : wc.cell? ⟨gb131, 0, none⟩ = some (.int .i64 0) := (Yd BK131.out 0).trans rfl
    have hcz29_1 : wc.cell? ⟨gb131, 1, none⟩ = some (.slice none 0 0) := (Yd BK131.out 1).trans rfl
    have hfz29_0 := Ye BK131.out 0
    have hfz29_1 := Ye BK131.out 1
    go_wp2
    refine bodyPost_ret (results_ct rfl _ _ gb131 28 #[.int .i64 0, .slice none 0 0] (0, 0) _ rfl (by (with_reducible repeat (first | refine Ya ?_ _ | refine Yb ?_ | refine Yc ?_ _)); refine blk_put (cs := #[.int .i64 0, .slice none 0 0]) ?_ 1 _ rfl; (with_reducible repeat (first | refine Ya ?_ _ | refine Yb ?_ | refine Yc ?_ _)); refine blk_put (cs := #[.int .i64 0, .slice none 0 0]) ?_ 0 _ rfl; (with_reducible repeat (first | refine Ya ?_ _ | refine Yb ?_ | refine Yc ?_ _)); exact BK131.out) Try.underlying28 rfl (by kernel_rfl)) rfl ?_
    exact ⟨_, by first | rfl | (simp [errW_none, errW_some] <;> rfl) | (simp [*, errW_none, errW_some] <;> rfl), by first | exact Kd.R_nil _ _ _ _ _ | exact Kd.N_nil _ _ _ _ _ | exact Kd.V_nil _ _ _ _ _ | exact Kd.Q_nil _ _ _ _ _ | exact Kd.S_nil _ _ _ _ _, by repeat (first | (with_reducible first | exact HB.out | apply Yf | apply Yg | apply Yh | refine Yi ?_ GE130.out | refine Yi ?_ GE131.out) | exact HB.out)⟩
   ·replace c27 := Bool.eq_false_iff.mpr c27
    subst c27
    have H1 : ((spec_l7Copy.f kj3 a0_0 l0_1).bind fun bt135 => ((spec_l7And.f kj3 bt135.1 bt135.2 a1 a2).bind fun bt139 => ((spec_l7Told.f bt139.1 bt139.2.1 bt139.2.2).bind fun bt145 => (some (bt145.1, bt145.2.1, bt145.2.2))))) = some (r1, r2, r3) := by rw [if_neg (show ¬ (false = true) by decide)] at H; exact H
    clear H
    have H := H1
    clear H1
    replace H := Option.bind_eq_some_iff.mp H
    obtain ⟨⟨t135, t136⟩, A300, H⟩ := H
    replace H : ((spec_l7And.f kj3 t135 t136 a1 a2).bind fun bt139 => ((spec_l7Told.f bt139.1 bt139.2.1 bt139.2.2).bind fun bt145 => (some (bt145.1, bt145.2.1, bt145.2.2)))) = some (r1, r2, r3) := H
    have A30 := Yj A300
    clear A300
    replace H := Option.bind_eq_some_iff.mp H
    obtain ⟨⟨t139, t140, t143⟩, A310, H⟩ := H
    replace H : ((spec_l7Told.f t139 t140 t143).bind fun bt145 => (some (bt145.1, bt145.2.1, bt145.2.2))) = some (r1, r2, r3) := H
    have A31 := Yj A310
    clear A310
    replace H := Option.bind_eq_some_iff.mp H
    obtain ⟨⟨t145, t146, t149⟩, A320, H⟩ := H
    replace H : (some (t145, t146, t149)) = some (r1, r2, r3) := H
    have A32 := Yj A320
    clear A320
    simp only [Option.some.injEq, Prod.mk.injEq] at H
    obtain ⟨rfl, rfl, rfl⟩ := H
    have hnb33 := NB130_131.out
    have hnc33 := NB131_130.out
    have hcz34_0 : wc.cell? ⟨gb130, 0, none⟩ = some (.int .i64 a0_0) := (Yd BK130.out 0).trans rfl
    have hcz34_1 : wc.cell? ⟨gb130, 1, none⟩ = some (.slice A0_1 l0_1.length c0_1) := (Yd BK130.out 1).trans rfl
    have hfz34_0 := Ye BK130.out 0
    have hfz34_1 := Ye BK130.out 1
    go_wp2_with (first | ((with_reducible refine gate_callee (f := 20) rfl ?_); refine goesL_ (some 28) rfl rfl Try.func20 (by kernel_rfl) rfl #[.agg #[.int .i64 a0_0, .slice A0_1 l0_1.length c0_1]] rfl (by (try simp only [List.map_toArray, List.map_cons, List.map_nil]); first | done | rfl | (simp only [List.length_drop, List.length_take]; rfl)) ?_; (with_reducible refine (spec_l7Copy.calls kj3 a0_0 _ _ l0_1 t135 t136 _ ?side1 ?side2 A30.out).mono ?_); (case side1 => repeat (first | exact (Kd.C_below HR0_1.out HB.out) | (with_reducible refine Kd.C_alloc ?_ _) | (with_reducible refine Kd.C_drewN ?_ _) | (with_reducible refine Kd.C_drew ?_))); (case side2 => exact HC0_1.out); rintro e w35 ⟨v137, rfl, ho0, hb⟩; refine ⟨_, rfl, ?_⟩; have n0_ := Yj (Kd.R_lower ho0 (below_size (by repeat (first | (with_reducible first | exact HB.out | apply Yf | apply Yg | apply Yh | refine Yi ?_ GE130.out | refine Yi ?_ GE131.out) | exact HB.out)))); have n1_ := Yj (blk_below (g := gb130) (o := .cells #[.int .i64 a0_0, .slice A0_1 l0_1.length c0_1] 28 (0, 0)) (by (with_reducible repeat (first | refine Ya ?_ _ | refine Yb ?_ | refine Yc ?_ _)); exact BK130.out) hb); have n2_ := Yj (blk_below (g := gb131) (o := .cells #[.int .i64 0, .slice none 0 0] 28 (0, 0)) (by (with_reducible repeat (first | refine Ya ?_ _ | refine Yb ?_ | refine Yc ?_ _)); exact BK131.out) hb); have n3_ := Yj (below_step (by repeat (first | (with_reducible first | exact HB.out | apply Yf | apply Yg | apply Yh | refine Yi ?_ GE130.out | refine Yi ?_ GE131.out) | exact HB.out)) hb); clear BK130; clear BK131; clear HB; have HO138 := n0_; have BK130 := n1_; have BK131 := n2_; have HB := n3_; clear n0_ n1_ n2_ n3_; (try clear hb); (try clear hb2); (try clear hk); (try clear hi); (try clear ho0); obtain ⟨Ao36, co36, eo36⟩ := Kd.R_slice HO138.out; subst eo36) | ((with_reducible refine gate_callee (f := 19) rfl ?_); refine goesL_ (some 31) rfl rfl Try.func19 (by kernel_rfl) rfl #[.agg #[.int .i64 t135, .slice Ao36 t136.length co36], .int .i64 a1, .int .i64 a2] rfl (by (try simp only [List.map_toArray, List.map_cons, List.map_nil]); first | done | rfl | (simp only [List.length_drop, List.length_take]; rfl)) ?_; (with_reducible refine (spec_l7And.calls kj3 t135 (fun k_ => some k_ = (.slice Ao36 t136.length co36 : Value).ownBlock) (.slice Ao36 t136.length co36) t136 a1 a2 t139 t140 t143 w _ ?side1 ?side2 A31.out).mono ?_); (case side1 => repeat (first | (with_reducible first | exact HB.out | apply Yf | apply Yg | apply Yh | refine Yi ?_ GE130.out | refine Yi ?_ GE131.out) | exact HB.out)); (case side2 => exact Kd.R_tight rfl HO138.out); rintro e w37 ⟨v141, rfl, ho0, hb, hkp⟩; refine ⟨_, rfl, ?_⟩; have n0_ := Yj (blk_kept (by (with_reducible repeat (first | refine Ya ?_ _ | refine Yb ?_ | refine Yc ?_ _)); exact BK130.out) hkp (fun hs_ => (fun e_ => (Kd.R_ne HO138.out BK130.out (by decide)) e_) hs_)); have n1_ := Yj (blk_kept (by (with_reducible repeat (first | refine Ya ?_ _ | refine Yb ?_ | refine Yc ?_ _)); exact BK131.out) hkp (fun hs_ => (fun e_ => (Kd.R_ne HO138.out BK131.out (by decide)) e_) hs_)); have n2_ := Yj (Kd.R_mono (ok' := fun k_ => True) ho0 (fun k_ hk_ => trivial)); have n3_ := Yj (hb); clear BK130; clear BK131; clear HB; clear HO138; have BK130 := n0_; have BK131 := n1_; have HO142 := n2_; have HB := n3_; clear n0_ n1_ n2_ n3_; (try clear hb); (try clear hkp); (try clear ho0)) | ((with_reducible refine gate_dst (N := 8) rfl ?_); refine box_event ?hg (N := 8) ?hd (cs := #[.int .i64 0, .slice none 0 0]) (t := 28) ?hr ?_; (case hd => rfl); (case hg => rfl); (case hr => first | (go_simp; done) | (go_simp; rfl)); intro gb144 hg w38 hbox hb; have n0_ := Yj (Kd.R_below (by (with_reducible repeat (first | apply Yl | apply Yk | apply Kd.R_drew)); exact HO142.out) hb); have n1_ := Yj (blk_below (g := gb130) (o := .cells #[.int .i64 a0_0, .slice A0_1 l0_1.length c0_1] 28 (0, 0)) (by (with_reducible repeat (first | refine Ya ?_ _ | refine Yb ?_ | refine Yc ?_ _)); exact BK130.out) hb); have n2_ := Yj (blk_below (g := gb131) (o := .cells #[.int .i64 0, .slice none 0 0] 28 (0, 0)) (by (with_reducible repeat (first | refine Ya ?_ _ | refine Yb ?_ | refine Yc ?_ _)); exact BK131.out) hb); have n3_ := Yj (below_step (by repeat (first | (with_reducible first | exact HB.out | apply Yf | apply Yg | apply Yh | refine Yi ?_ GE130.out | refine Yi ?_ GE131.out) | exact HB.out)) hb); have n4_ := Yj (hbox); have n5_ := Yj ((by rw [hg]; exact (below_size (by repeat (first | (with_reducible first | exact HB.out | apply Yf | apply Yg | apply Yh | refine Yi ?_ GE130.out | refine Yi ?_ GE131.out) | exact HB.out))) : w.heap.size ≤ gb144)); have n6_ := Yj ((by rw [hg]; exact (below_size (by repeat (first | (with_reducible first | exact HB.out | apply Yf | apply Yg | apply Yh | refine Yi ?_ GE130.out | refine Yi ?_ GE131.out) | exact HB.out))) : w.heap.size ≤ gb144)); have n7_ := Yj ((by rw [hg]; exact Nat.ne_of_lt (blk_lt (g := gb130) (o := .cells #[.int .i64 a0_0, .slice A0_1 l0_1.length c0_1] 28 (0, 0)) (by (with_reducible repeat (first | refine Ya ?_ _ | refine Yb ?_ | refine Yc ?_ _)); exact BK130.out)) : gb130 ≠ gb144)); have n8_ := Yj ((by rw [hg]; exact Nat.ne_of_gt (blk_lt (g := gb130) (o := .cells #[.int .i64 a0_0, .slice A0_1 l0_1.length c0_1] 28 (0, 0)) (by (with_reducible repeat (first | refine Ya ?_ _ | refine Yb ?_ | refine Yc ?_ _)); exact BK130.out)) : gb144 ≠ gb130)); have n9_ := Yj ((by rw [hg]; exact Nat.ne_of_lt (blk_lt (g := gb131) (o := .cells #[.int .i64 0, .slice none 0 0] 28 (0, 0)) (by (with_reducible repeat (first | refine Ya ?_ _ | refine Yb ?_ | refine Yc ?_ _)); exact BK131.out)) : gb131 ≠ gb144)); have n10_ := Yj ((by rw [hg]; exact Nat.ne_of_gt (blk_lt (g := gb131) (o := .cells #[.int .i64 0, .slice none 0 0] 28 (0, 0)) (by (with_reducible repeat (first | refine Ya ?_ _ | refine Yb ?_ | refine Yc ?_ _)); exact BK131.out)) : gb144 ≠ gb131)); clear HO142; clear BK130; clear BK131; clear HB; have HO142 := n0_; have BK130 := n1_; have BK131 := n2_; have HB := n3_; have BK144 := n4_; have GW144 := n5_; have GE144 := n6_; have NB130_144 := n7_; have NB144_130 := n8_; have NB131_144 := n9_; have NB144_131 := n10_; clear n0_ n1_ n2_ n3_ n4_ n5_ n6_ n7_ n8_ n9_ n10_; clear hb hbox hg; have hnb39 := NB144_130.out; have hnc39 := NB130_144.out; have hnb40 := NB144_131.out; have hnc40 := NB131_144.out; have hcz41_0 : w38.cell? ⟨gb144, 0, none⟩ = some (.int .i64 0) := (Yd BK144.out 0).trans rfl; have hcz41_1 : w38.cell? ⟨gb144, 1, none⟩ = some (.slice none 0 0) := (Yd BK144.out 1).trans rfl; have hfz41_0 := Ye BK144.out 0; have hfz41_1 := Ye BK144.out 1; obtain ⟨Ao42, co42, eo42⟩ := Kd.R_slice HO142.out; subst eo42) | ((with_reducible refine gate_store (t := 28) (p := 8) rfl ?_); refine store_event (t := 28) (p := 8) (v := ?vo_w43) (w1 := ((w38.setCell ⟨gb144, 0, none⟩ (.int .i64 t139)).setCell ⟨gb144, 1, none⟩ (.slice Ao42 t140.length co42))) ?hg ?ho ?hn ?hr ?_; (case ho => rfl); (case hg => rfl); (case hn => rfl); (case hr => first | (go_simp; done) | (go_simp; rfl)); intro w43 hw; have n0_ : Aside0 (Kd.R k57 57 w43 w.heap.size (fun _ => True) (.slice Ao42 t140.length co42) t140) := ⟨(by rw [hw]; exact (by (with_reducible repeat (first | apply Yl | apply Yk | apply Kd.R_drew)); exact Kd.R_mono (Kd.R_far (p := ⟨gb144, 1, none⟩) (Kd.R_far (p := ⟨gb144, 0, none⟩) (Kd.R_types HO142.out BK144.out (by decide)) (fun _ hk => hk.2) (.int .i64 t139)) (fun _ hk => hk.2) (.slice Ao42 t140.length co42)) (fun _ hk => trivial)))⟩; have n1_ : Aside0 (w43.heap[gb130]? = some (.cells #[.int .i64 a0_0, .slice A0_1 l0_1.length c0_1] 28 (0, 0))) := ⟨(by rw [hw]; exact (by (with_reducible repeat (first | refine Ya ?_ _ | refine Yb ?_ | refine Yc ?_ _)); refine blk_far ?_ NB130_144.out _; (with_reducible repeat (first | refine Ya ?_ _ | refine Yb ?_ | refine Yc ?_ _)); refine blk_far ?_ NB130_144.out _; (with_reducible repeat (first | refine Ya ?_ _ | refine Yb ?_ | refine Yc ?_ _)); exact BK130.out))⟩; have n2_ : Aside0 (w43.heap[gb131]? = some (.cells #[.int .i64 0, .slice none 0 0] 28 (0, 0))) := ⟨(by rw [hw]; exact (by (with_reducible repeat (first | refine Ya ?_ _ | refine Yb ?_ | refine Yc ?_ _)); refine blk_far ?_ NB131_144.out _; (with_reducible repeat (first | refine Ya ?_ _ | refine Yb ?_ | refine Yc ?_ _)); refine blk_far ?_ NB131_144.out _; (with_reducible repeat (first | refine Ya ?_ _ | refine Yb ?_ | refine Yc ?_ _)); exact BK131.out))⟩; have n3_ : Aside0 (w43.heap[gb144]? = some (.cells #[.int .i64 t139, .slice Ao42 t140.length co42] 28 (0, 0))) := ⟨(by rw [hw]; exact (by (with_reducible repeat (first | refine Ya ?_ _ | refine Yb ?_ | refine Yc ?_ _)); refine blk_put (cs := #[.int .i64 t139, .slice none 0 0]) ?_ 1 _ rfl; (with_reducible repeat (first | refine Ya ?_ _ | refine Yb ?_ | refine Yc ?_ _)); refine blk_put (cs := #[.int .i64 0, .slice none 0 0]) ?_ 0 _ rfl; (with_reducible repeat (first | refine Ya ?_ _ | refine Yb ?_ | refine Yc ?_ _)); exact BK144.out))⟩; have n4_ : Aside0 (Below w.heap.size w w43) := ⟨(by rw [hw]; exact (by repeat (first | (with_reducible first | exact HB.out | apply Yf | apply Yg | apply Yh | refine Yi ?_ GE130.out | refine Yi ?_ GE131.out | refine Yi ?_ GE144.out) | exact HB.out)))⟩; clear hw; clear HO142; clear BK130; clear BK131; clear BK144; clear HB; have HO142 := n0_; have BK130 := n1_; have BK131 := n2_; have BK144 := n3_; have HB := n4_; clear n0_ n1_ n2_ n3_ n4_; have hcz44_0 : w43.cell? ⟨gb144, 0, none⟩ = some (.int .i64 t139) := (Yd BK144.out 0).trans rfl; have hcz44_1 : w43.cell? ⟨gb144, 1, none⟩ = some (.slice Ao42 t140.length co42) := (Yd BK144.out 1).trans rfl; have hfz44_0 := Ye BK144.out 0; have hfz44_1 := Ye BK144.out 1) | ((with_reducible refine gate_callee (f := 21) rfl ?_); refine goesL_ (some 36) rfl rfl Try.func21 (by kernel_rfl) rfl #[.agg #[.int .i64 t139, .slice Ao42 t140.length co42], .int .i64 t143] rfl (by (try simp only [List.map_toArray, List.map_cons, List.map_nil]); first | done | rfl | (simp only [List.length_drop, List.length_take]; rfl)) ?_; (with_reducible refine (spec_l7Told.calls t139 (fun k_ => some k_ = (.slice Ao42 t140.length co42 : Value).ownBlock) (.slice Ao42 t140.length co42) t140 t143 t145 t146 t149 w _ ?side1 ?side2 A32.out).mono ?_); (case side1 => repeat (first | (with_reducible first | exact HB.out | apply Yf | apply Yg | apply Yh | refine Yi ?_ GE130.out | refine Yi ?_ GE131.out | refine Yi ?_ GE144.out) | exact HB.out)); (case side2 => exact Kd.R_tight rfl HO142.out); rintro e w45 ⟨v147, rfl, ho0, hb, hkp⟩; refine ⟨_, rfl, ?_⟩; have n0_ := Yj (blk_kept (by (with_reducible repeat (first | refine Ya ?_ _ | refine Yb ?_ | refine Yc ?_ _)); exact BK130.out) hkp (fun hs_ => (fun e_ => (Kd.R_ne HO142.out BK130.out (by decide)) e_) hs_)); have n1_ := Yj (blk_kept (by (with_reducible repeat (first | refine Ya ?_ _ | refine Yb ?_ | refine Yc ?_ _)); exact BK131.out) hkp (fun hs_ => (fun e_ => (Kd.R_ne HO142.out BK131.out (by decide)) e_) hs_)); have n2_ := Yj (blk_kept (by (with_reducible repeat (first | refine Ya ?_ _ | refine Yb ?_ | refine Yc ?_ _)); exact BK144.out) hkp (fun hs_ => (fun e_ => (Kd.R_ne HO142.out BK144.out (by decide)) e_) hs_)); have n3_ := Yj (Kd.R_mono (ok' := fun k_ => True) ho0 (fun k_ hk_ => trivial)); have n4_ := Yj (hb); clear BK130; clear BK131; clear BK144; clear HB; clear HO142; have BK130 := n0_; have BK131 := n1_; have BK144 := n2_; have HO148 := n3_; have HB := n4_; clear n0_ n1_ n2_ n3_ n4_; (try clear hb); (try clear hkp); (try clear ho0); have hcz46_0 : w45.cell? ⟨gb131, 0, none⟩ = some (.int .i64 0) := (Yd BK131.out 0).trans rfl; have hcz46_1 : w45.cell? ⟨gb131, 1, none⟩ = some (.slice none 0 0) := (Yd BK131.out 1).trans rfl; have hfz46_0 := Ye BK131.out 0; have hfz46_1 := Ye BK131.out 1; obtain ⟨Ao47, co47, eo47⟩ := Kd.R_slice HO148.out; subst eo47))
    refine bodyPost_ret (results_ct rfl _ _ gb131 28 #[.int .i64 t145, .slice Ao47 t146.length co47] (0, 0) _ rfl (by (with_reducible repeat (first | refine Ya ?_ _ | refine Yb ?_ | refine Yc ?_ _)); refine blk_put (cs := #[.int .i64 t145, .slice none 0 0]) ?_ 1 _ rfl; (with_reducible repeat (first | refine Ya ?_ _ | refine Yb ?_ | refine Yc ?_ _)); refine blk_put (cs := #[.int .i64 0, .slice none 0 0]) ?_ 0 _ rfl; (with_reducible repeat (first | refine Ya ?_ _ | refine Yb ?_ | refine Yc ?_ _)); exact BK131.out) Try.underlying28 rfl (by kernel_rfl)) rfl ?_
    exact ⟨_, by first | rfl | (simp [errW_none, errW_some] <;> rfl) | (simp [*, errW_none, errW_some] <;> rfl), by (with_reducible repeat (first | apply Yl | apply Yk | apply Kd.R_drew)); exact Kd.R_mono (Kd.R_far (p := ⟨gb131, 1, none⟩) (Kd.R_far (p := ⟨gb131, 0, none⟩) (Kd.R_types HO148.out BK131.out (by decide)) (fun _ hk => hk.2) (.int .i64 t145)) (fun _ hk => hk.2) (.slice Ao47 t146.length co47)) (fun _ hk => trivial), by repeat (first | (with_reducible first | exact HB.out | apply Yf | apply Yg | apply Yh | refine Yi ?_ GE130.out | refine Yi ?_ GE131.out | refine Yi ?_ GE144.out) | exact HB.out)⟩

/-! ### impl_in: function 41 -/
def impl_in.f (a0 : Int) (a1 : Int) (a2 : Int) : Option (Bool) := if a0 ≥ a1 then (some (decide (a0 ≤ a2))) else (some false)
set_option maxHeartbeats 8000000 in
set_option maxRecDepth 100000 in
theorem impl_in.calls (a0 : Int) (a1 : Int) (a2 : Int) (r : Bool) (w : World) (h : impl_in.f a0 a1 a2 = some r) :
  Calls Try.prog 41 #[.int .i64 a0, .int .i64 a1, .int .i64 a2] w fun e w' => e = .returned (.bool r) ∧ Drawn0 w w' := by
 have H : (if a0 ≥ a1 then (some (decide (a0 ≤ a2))) else (some false)) = some r := h
 clear h
 by_cases c4 : a0 ≥ a1
 ·rw [if_pos c4] at H
  have c4b0 : decide (a1 ≤ a0) = true := decide_eq_true c4
  clear c4
  obtain rfl := Option.some.inj H
  go_enter Try.func41, Try.ntmps41
  go_wp2
  go_ret
  exact ⟨by first | rfl | (simp; done) | (simp [*]; done), by repeat (first | exact Drawn0.refl _ | apply Drawn0.step)⟩
 ·rw [if_neg c4] at H
  have c4b0 : decide (a1 ≤ a0) = false := decide_eq_false c4
  clear c4
  obtain rfl := Option.some.inj H
  go_enter Try.func41, Try.ntmps41
  go_wp2
  go_ret
  exact ⟨by first | rfl | (simp; done) | (simp [*]; done), by repeat (first | exact Drawn0.refl _ | apply Drawn0.step)⟩

/-! ### impl_CircuitValid: function 23 -/
mutual
def impl_CircuitValid.j0 : Nat → Bool → Int → List (S57) → Option (Bool)
 | 0, _, _, _ => none
 | k + 1, x15, x151000, x151001 => if x15 = true then (some false) else (impl_CircuitValid.l0 k x151001 (x151001.length : Int) 0 x151000 x151001)
def impl_CircuitValid.l0 : Nat → List (S57) → Int → Int → Int → List (S57) → Option (Bool)
 | 0, _, _, _, _, _ => none
 | k + 1, x17, x18, x19, x151000, x151001 => if x19 < x18 then (if 0 ≤ x19 then (if x19 < (x17.length : Int) then ((impl_in.f ((rd_T57 x17 x19).f0) 0 (wrap64 ((wrap64 (2 * (wrap64 ((wrap64 (1 + x151000)) + x19)))) - 1))).bind fun t154 => (if t154 = true then ((impl_in.f ((rd_T57 x17 x19).f1) 0 (wrap64 ((wrap64 (2 * (wrap64 ((wrap64 (1 + x151000)) + x19)))) - 1))).bind fun t155 => (if t155 = true then (impl_CircuitValid.l0 k x17 x18 (wrap64 (x19 + 1)) x151000 x151001) else (some false))) else (some false))) else (none)) else (none)) else (some true)
end
def impl_CircuitValid.f (k : Nat) (a0_0 : Int) (l0_1 : List (S57)) : Option (Bool) := (impl_in.f a0_0 0 12).bind fun t151 => (if t151 = true then (impl_CircuitValid.j0 k (decide ((l0_1.length : Int) > 600)) a0_0 l0_1) else (impl_CircuitValid.j0 k true a0_0 l0_1))
theorem impl_CircuitValid.mono_l : ∀ k, (∀ y0 y1 y2, LeO (impl_CircuitValid.j0 k y0 y1 y2) (impl_CircuitValid.j0 (k + 1) y0 y1 y2)) ∧ (∀ y0 y1 y2 y3 y4, LeO (impl_CircuitValid.l0 k y0 y1 y2 y3 y4) (impl_CircuitValid.l0 (k + 1) y0 y1 y2 y3 y4))
 | 0 => ⟨fun _ _ _ r h => by simp [impl_CircuitValid.j0] at h, fun _ _ _ _ _ r h => by simp [impl_CircuitValid.l0] at h⟩
 | k + 1 => by
  obtain ⟨ih0, ih1⟩ := impl_CircuitValid.mono_l k
  refine ⟨?_, ?_⟩
  ·intro y0 y1 y2
   unfold impl_CircuitValid.j0
   repeat' first
   | (with_reducible exact ih0 _ _ _)
   | (with_reducible exact ih1 _ _ _ _ _)
   | (with_reducible exact LeO.refl _)
   | (with_reducible exact LeO.none _)
   | (with_reducible refine LeO.ite ?_ ?_)
   | (with_reducible refine LeO.bind ?_ (fun _ => ?_))
   | exact ih0 _ _ _
   | exact ih1 _ _ _ _ _
   | exact LeO.none _
   | refine LeO.ite ?_ ?_
   | refine LeO.bind ?_ (fun _ => ?_)
  ·intro y0 y1 y2 y3 y4
   unfold impl_CircuitValid.l0
   repeat' first
   | (with_reducible exact ih0 _ _ _)
   | (with_reducible exact ih1 _ _ _ _ _)
   | (with_reducible exact LeO.refl _)
   | (with_reducible exact LeO.none _)
   | (with_reducible refine LeO.ite ?_ ?_)
   | (with_reducible refine LeO.bind ?_ (fun _ => ?_))
   | exact ih0 _ _ _
   | exact ih1 _ _ _ _ _
   | exact LeO.none _
   | refine LeO.ite ?_ ?_
   | refine LeO.bind ?_ (fun _ => ?_)
theorem impl_CircuitValid.mono : ∀ a0 a1 k, LeO (impl_CircuitValid.f k a0 a1) (impl_CircuitValid.f (k + 1) a0 a1) := by
 intro a0 a1 k
 obtain ⟨ih0, ih1⟩ := impl_CircuitValid.mono_l k
 unfold impl_CircuitValid.f
 repeat' first
   | (with_reducible exact ih0 _ _ _)
   | (with_reducible exact ih1 _ _ _ _ _)
   | (with_reducible exact LeO.refl _)
   | (with_reducible exact LeO.none _)
   | (with_reducible refine LeO.ite ?_ ?_)
   | (with_reducible refine LeO.bind ?_ (fun _ => ?_))
   | exact ih0 _ _ _
   | exact ih1 _ _ _ _ _
   | exact LeO.none _
   | refine LeO.ite ?_ ?_
   | refine LeO.bind ?_ (fun _ => ?_)
set_option maxHeartbeats 8000000 in
set_option maxRecDepth 100000 in
theorem impl_CircuitValid.calls (k : Nat) (a0_0 : Int) (A0_1 : Option Addr) (c0_1 : Nat) (l0_1 : List (S57)) (r : Bool) (w : World) (hr0_1 : Kd.C k57 w A0_1 l0_1.length l0_1) (hc0_1 : l0_1.length ≤ c0_1) (h : impl_CircuitValid.f k a0_0 l0_1 = some r) :
  Calls Try.prog 23 #[.agg #[.int .i64 a0_0, .slice A0_1 l0_1.length c0_1]] w fun e w' => e = .returned (.bool r) ∧ Below w.heap.size w w' := by
 have hu28 := Try.underlying28
 have hu57 := Try.underlying57
 have HR0_1 := Yj hr0_1
 have HC0_1 := Yj hc0_1
 clear hr0_1 hc0_1
 have HB := Yj (Below.refl w.heap.size w)
 have H : ((impl_in.f a0_0 0 12).bind fun t151 => (if t151 = true then (impl_CircuitValid.j0 k (decide ((l0_1.length : Int) > 600)) a0_0 l0_1) else (impl_CircuitValid.j0 k true a0_0 l0_1))) = some r := h
 clear h
 have HC2 := Yj H
 clear H
 go_enter Try.func23, Try.ntmps23
 go_upto_region 1 with (first | ((with_reducible refine gate_dst (N := 1) rfl ?_); (try (refine gate_guard (by rfl) ?_; dsimp only)); refine box_event ?hg (N := 1) ?hd (cs := #[.int .i64 a0_0, .slice A0_1 l0_1.length c0_1]) (t := 28) ?hr ?_; (case hd => rfl); (case hg => rfl); (case hr => first | (go_simp; done) | (go_simp; rfl)); intro gb150 hg w3 hbox hb; have n0_ := Yj (below_step (by repeat (first | (with_reducible first | exact HB.out | apply Yf | apply Yg | apply Yh) | exact HB.out)) hb); have n1_ := Yj (hbox); have n2_ := Yj ((by rw [hg]; exact (below_size (by repeat (first | (with_reducible first | exact HB.out | apply Yf | apply Yg | apply Yh) | exact HB.out))) : w.heap.size ≤ gb150)); have n3_ := Yj ((by rw [hg]; exact (below_size (by repeat (first | (with_reducible first | exact HB.out | apply Yf | apply Yg | apply Yh) | exact HB.out))) : w.heap.size ≤ gb150)); clear HB; have HB := n0_; have BK150 := n1_; have GW150 := n2_; have GE150 := n3_; clear n0_ n1_ n2_ n3_; clear hb hbox hg))
 (try simp only [Act.put, List.setIfInBounds_toArray, List.set_cons_zero, List.set_cons_succ])
 go_cut [15] (fun v15 wc => ∃ (kq : Nat) (x15_1 : Bool), v15 = .bool x15_1 ∧ Aside0 (impl_CircuitValid.j0 kq x15_1 a0_0 l0_1 = some r) ∧ Aside0 (kq ≤ k) ∧ Aside0 (wc.heap[gb150]? = some (.cells #[.int .i64 a0_0, (.slice A0_1 l0_1.length c0_1)] 28 (0, 0))) ∧ Aside0 (Below w.heap.size w wc))
 case first =>
  have H := HC2.out
  clear HC2
  replace H := Option.bind_eq_some_iff.mp H
  obtain ⟨t151, A40, H⟩ := H
  replace H : (if t151 = true then (impl_CircuitValid.j0 k (decide ((l0_1.length : Int) > 600)) a0_0 l0_1) else (impl_CircuitValid.j0 k true a0_0 l0_1)) = some r := H
  have A4 := Yj A40
  clear A40
  by_cases c5 : t151 = true
  ·subst c5
   have H1 : (impl_CircuitValid.j0 k (decide ((l0_1.length : Int) > 600)) a0_0 l0_1) = some r := by rw [if_pos rfl] at H; exact H
   clear H
   have H := H1
   clear H1
   have H' := Yj H
   clear H
   have hcz6_0 : w3.cell? ⟨gb150, 0, none⟩ = some (.int .i64 a0_0) := (Yd BK150.out 0).trans rfl
   have hcz6_1 : w3.cell? ⟨gb150, 1, none⟩ = some (.slice A0_1 l0_1.length c0_1) := (Yd BK150.out 1).trans rfl
   have hfz6_0 := Ye BK150.out 0
   have hfz6_1 := Ye BK150.out 1
   go_wp2_with (first | ((with_reducible refine gate_callee (f := 41) rfl ?_); refine goesL_ (some 8) rfl rfl Try.func41 (by kernel_rfl) rfl #[.int .i64 a0_0, .int .i64 0, .int .i64 12] rfl (by (try simp only [List.map_toArray, List.map_cons, List.map_nil]); first | done | rfl | (simp only [List.length_drop, List.length_take]; rfl)) ?_; (with_reducible refine (impl_in.calls a0_0 0 12 true _ A4.out).mono ?_); rintro e w' ⟨rfl, ⟨nd, rfl⟩⟩; refine ⟨_, rfl, ?_⟩))
   go_meet
   case rel => exact ⟨_, (decide ((l0_1.length : Int) > 600)), (by first | rfl | (simp; done) | (simp [*]; done)), H', ⟨by first | omega | exact Nat.le_refl _⟩, ⟨by (with_reducible repeat (first | refine Ya ?_ _ | refine Yb ?_ | refine Yc ?_ _)); exact BK150.out⟩, ⟨by repeat (first | (with_reducible first | exact HB.out | apply Yf | apply Yg | apply Yh | refine Yi ?_ GE150.out) | exact HB.out)⟩⟩
  ·replace c5 := Bool.eq_false_iff.mpr c5
   subst c5
   have H1 : (impl_CircuitValid.j0 k true a0_0 l0_1) = some r := by rw [if_neg (show ¬ (false = true) by decide)] at H; exact H
   clear H
   have H := H1
   clear H1
   have H' := Yj H
   clear H
   have hcz7_0 : w3.cell? ⟨gb150, 0, none⟩ = some (.int .i64 a0_0) := (Yd BK150.out 0).trans rfl
   have hcz7_1 : w3.cell? ⟨gb150, 1, none⟩ = some (.slice A0_1 l0_1.length c0_1) := (Yd BK150.out 1).trans rfl
   have hfz7_0 := Ye BK150.out 0
   have hfz7_1 := Ye BK150.out 1
   go_wp2_with (first | ((with_reducible refine gate_callee (f := 41) rfl ?_); refine goesL_ (some 8) rfl rfl Try.func41 (by kernel_rfl) rfl #[.int .i64 a0_0, .int .i64 0, .int .i64 12] rfl (by (try simp only [List.map_toArray, List.map_cons, List.map_nil]); first | done | rfl | (simp only [List.length_drop, List.length_take]; rfl)) ?_; (with_reducible refine (impl_in.calls a0_0 0 12 false _ A4.out).mono ?_); rintro e w' ⟨rfl, ⟨nd, rfl⟩⟩; refine ⟨_, rfl, ?_⟩))
   go_meet
   case rel => exact ⟨_, (true), (by first | rfl | (simp; done) | (simp [*]; done)), H', ⟨by first | omega | exact Nat.le_refl _⟩, ⟨by (with_reducible repeat (first | refine Ya ?_ _ | refine Yb ?_ | refine Yc ?_ _)); exact BK150.out⟩, ⟨by repeat (first | (with_reducible first | exact HB.out | apply Yf | apply Yg | apply Yh | refine Yi ?_ GE150.out) | exact HB.out)⟩⟩
 case rest =>
  clear HC2
  try clear c2
  try clear p2
  try clear c4
  try clear c5
  try clear hcz6_0
  try clear hcz6_1
  try clear hcz7_0
  try clear hcz7_1
  try clear hfz6_0
  try clear hfz6_1
  try clear hfz7_0
  try clear hfz7_1
  obtain ⟨kq, x15_1, rfl, HA, HJ1, BK150, HB⟩ := hcut
  cases kq with
  | zero => exact absurd HA.out (by simp [impl_CircuitValid.j0])
  | succ kj1 =>
   have H := HA.out
   clear HA
   simp only [impl_CircuitValid.j0] at H
   by_cases c8 : x15_1 = true
   ·subst c8
    have H1 : (some false) = some r := by rw [if_pos rfl] at H; exact H
    clear H
    have H := H1
    clear H1
    obtain rfl := Option.some.inj H
    go_wp2
    go_ret
    exact ⟨by first | rfl | (simp [errW_none, errW_some] <;> rfl) | (simp [*, errW_none, errW_some] <;> rfl), by repeat (first | (with_reducible first | exact HB.out | apply Yf | apply Yg | apply Yh | refine Yi ?_ GE150.out) | exact HB.out)⟩
   ·replace c8 := Bool.eq_false_iff.mpr c8
    subst c8
    have H1 : (impl_CircuitValid.l0 kj1 l0_1 (l0_1.length : Int) 0 a0_0 l0_1) = some r := by rw [if_neg (show ¬ (false = true) by decide)] at H; exact H
    clear H
    have H := H1
    clear H1
    have H' := Yj H
    clear H
    have hcz9_0 : wc.cell? ⟨gb150, 0, none⟩ = some (.int .i64 a0_0) := (Yd BK150.out 0).trans rfl
    have hcz9_1 : wc.cell? ⟨gb150, 1, none⟩ = some (.slice A0_1 l0_1.length c0_1) := (Yd BK150.out 1).trans rfl
    have hfz9_0 := Ye BK150.out 0
    have hfz9_1 := Ye BK150.out 1
    go_wp2
    go_loopg [19] kj1 (fun kq v19 w' => ∃ (x19_2 : Int), v19 = .int .i64 x19_2 ∧ Aside0 (impl_CircuitValid.l0 kq l0_1 (l0_1.length : Int) x19_2 a0_0 l0_1 = some r) ∧ Aside0 (kq ≤ kj1) ∧ Aside0 (w'.heap[gb150]? = some (.cells #[.int .i64 a0_0, (.slice A0_1 l0_1.length c0_1)] 28 (0, 0))) ∧ Aside0 (Below w.heap.size w w'))
    case atStart => exact ⟨(0), (by first | rfl | (simp; done) | (simp [*]; done)), H', ⟨Nat.le_refl _⟩, ⟨by (with_reducible repeat (first | refine Ya ?_ _ | refine Yb ?_ | refine Yc ?_ _)); exact BK150.out⟩, ⟨by repeat (first | (with_reducible first | exact HB.out | apply Yf | apply Yg | apply Yh | refine Yi ?_ GE150.out) | exact HB.out)⟩⟩
    case round =>
     clear H'
     try clear c2
     try clear p2
     try clear c4
     try clear c5
     try clear c8
     try clear hcz6_0
     try clear hcz6_1
     try clear hcz7_0
     try clear hcz7_1
     try clear hcz9_0
     try clear hcz9_1
     try clear hfz6_0
     try clear hfz6_1
     try clear hfz7_0
     try clear hfz7_1
     try clear hfz9_0
     try clear hfz9_1
     try clear p2
     obtain ⟨x19_2, rfl, HA, HK2, BK150, HB⟩ := hrel
     cases gk with
     | zero => exact absurd HA.out (by simp [impl_CircuitValid.l0])
     | succ k2 =>
      have H := HA.out
      clear HA
      simp only [impl_CircuitValid.l0] at H
      by_cases c10 : x19_2 < (l0_1.length : Int)
      ·rw [if_pos c10] at H
       have c10b0 : decide (x19_2 < (l0_1.length : Int)) = true := decide_eq_true c10
       clear c10
       by_cases c11 : 0 ≤ x19_2
       ·rw [if_pos c11] at H
        have c11b0 : decide (0 ≤ x19_2) = true := decide_eq_true c11
        clear c11
        by_cases c12 : x19_2 < (l0_1.length : Int)
        ·rw [if_pos c12] at H
         have c12b0 : decide (x19_2 < (l0_1.length : Int)) = true := decide_eq_true c12
         clear c12
         replace H := Option.bind_eq_some_iff.mp H
         obtain ⟨t154, A130, H⟩ := H
         replace H : (if t154 = true then ((impl_in.f ((rd_T57 l0_1 x19_2).f1) 0 (wrap64 ((wrap64 (2 * (wrap64 ((wrap64 (1 + a0_0)) + x19_2)))) - 1))).bind fun t155 => (if t155 = true then (impl_CircuitValid.l0 k2 l0_1 (l0_1.length : Int) (wrap64 (x19_2 + 1)) a0_0 l0_1) else (some false))) else (some false)) = some r := H
         have A13 := Yj A130
         clear A130
         by_cases c14 : t154 = true
         ·subst c14
          have H1 : ((impl_in.f ((rd_T57 l0_1 x19_2).f1) 0 (wrap64 ((wrap64 (2 * (wrap64 ((wrap64 (1 + a0_0)) + x19_2)))) - 1))).bind fun t155 => (if t155 = true then (impl_CircuitValid.l0 k2 l0_1 (l0_1.length : Int) (wrap64 (x19_2 + 1)) a0_0 l0_1) else (some false))) = some r := by rw [if_pos rfl] at H; exact H
          clear H
          have H := H1
          clear H1
          replace H := Option.bind_eq_some_iff.mp H
          obtain ⟨t155, A150, H⟩ := H
          replace H : (if t155 = true then (impl_CircuitValid.l0 k2 l0_1 (l0_1.length : Int) (wrap64 (x19_2 + 1)) a0_0 l0_1) else (some false)) = some r := H
          have A15 := Yj A150
          clear A150
          by_cases c16 : t155 = true
          ·subst c16
           have H1 : (impl_CircuitValid.l0 k2 l0_1 (l0_1.length : Int) (wrap64 (x19_2 + 1)) a0_0 l0_1) = some r := by rw [if_pos rfl] at H; exact H
           clear H
           have H := H1
           clear H1
           have H' := Yj H
           clear H
           have p152 : 0 ≤ (x19_2 : Int) := of_decide_eq_true (by first | (with_reducible assumption) | assumption)
           have q152 : x19_2 < (l0_1.length : Int) := of_decide_eq_true (by first | (with_reducible assumption) | assumption)
           obtain ⟨ad152, e152, hx152_0, hx152_1⟩ := at_T57 HR0_1.out x19_2 p152 q152
           cases e152
           replace hx152_0 := (HB.out.cell (World.block_lt_of_cell? w _ hx152_0)).trans hx152_0
           replace hx152_1 := (HB.out.cell (World.block_lt_of_cell? w _ hx152_1)).trans hx152_1
           replace p152 := eq_true p152
           replace q152 := eq_true q152
           go_wp2_with (first | ((with_reducible refine gate_dst (N := 4) rfl ?_); (try (refine gate_guard (by rfl) ?_; dsimp only)); refine box_event ?hg (N := 4) ?hd (cs := #[.int .i64 0, .int .i64 0]) (t := 57) ?hr ?_; (case hd => rfl); (case hg => rfl); (case hr => first | (go_simp; done) | (go_simp; rfl)); intro gb153 hg w17 hbox hb; have n0_ := Yj (blk_below (g := gb150) (o := .cells #[.int .i64 a0_0, .slice (some ad152) l0_1.length c0_1] 28 (0, 0)) (by (with_reducible repeat (first | refine Ya ?_ _ | refine Yb ?_ | refine Yc ?_ _)); exact BK150.out) hb); have n1_ := Yj (below_step (by repeat (first | (with_reducible first | exact HB.out | apply Yf | apply Yg | apply Yh | refine Yi ?_ GE150.out) | exact HB.out)) hb); have n2_ := Yj (hbox); have n3_ := Yj ((by rw [hg]; exact (below_size (by repeat (first | (with_reducible first | exact HB.out | apply Yf | apply Yg | apply Yh | refine Yi ?_ GE150.out) | exact HB.out))) : w.heap.size ≤ gb153)); have n4_ := Yj ((by rw [hg]; exact (below_size (by repeat (first | (with_reducible first | exact HB.out | apply Yf | apply Yg | apply Yh | refine Yi ?_ GE150.out) | exact HB.out))) : w.heap.size ≤ gb153)); have n5_ := Yj ((by rw [hg]; exact Nat.ne_of_lt (blk_lt (g := gb150) (o := .cells #[.int .i64 a0_0, .slice (some ad152) l0_1.length c0_1] 28 (0, 0)) (by (with_reducible repeat (first | refine Ya ?_ _ | refine Yb ?_ | refine Yc ?_ _)); exact BK150.out)) : gb150 ≠ gb153)); have n6_ := Yj ((by rw [hg]; exact Nat.ne_of_gt (blk_lt (g := gb150) (o := .cells #[.int .i64 a0_0, .slice (some ad152) l0_1.length c0_1] 28 (0, 0)) (by (with_reducible repeat (first | refine Ya ?_ _ | refine Yb ?_ | refine Yc ?_ _)); exact BK150.out)) : gb153 ≠ gb150)); clear BK150; clear HB; have BK150 := n0_; have HB := n1_; have BK153 := n2_; have GW153 := n3_; have GE153 := n4_; have NB150_153 := n5_; have NB153_150 := n6_; clear n0_ n1_ n2_ n3_ n4_ n5_ n6_; clear hb hbox hg; have hnb18 := NB153_150.out; have hnc18 := NB150_153.out; have hcz19_0 : w17.cell? ⟨gb153, 0, none⟩ = some (.int .i64 0) := (Yd BK153.out 0).trans rfl; have hcz19_1 : w17.cell? ⟨gb153, 1, none⟩ = some (.int .i64 0) := (Yd BK153.out 1).trans rfl; have hfz19_0 := Ye BK153.out 0; have hfz19_1 := Ye BK153.out 1; have hcz20_0 : w17.cell? ⟨gb150, 0, none⟩ = some (.int .i64 a0_0) := (Yd BK150.out 0).trans rfl; have hcz20_1 : w17.cell? ⟨gb150, 1, none⟩ = some (.slice (some ad152) l0_1.length c0_1) := (Yd BK150.out 1).trans rfl; have hfz20_0 := Ye BK150.out 0; have hfz20_1 := Ye BK150.out 1) | ((with_reducible refine gate_callee (f := 41) rfl ?_); refine goesL_ (some 34) rfl rfl Try.func41 (by kernel_rfl) rfl #[.int .i64 ((rd_T57 l0_1 x19_2).f0), .int .i64 0, .int .i64 (wrap64 ((wrap64 (2 * (wrap64 ((wrap64 (1 + a0_0)) + x19_2)))) - 1))] rfl (by (try simp only [List.map_toArray, List.map_cons, List.map_nil]); first | done | rfl | (simp only [List.length_drop, List.length_take]; rfl)) ?_; (with_reducible refine (impl_in.calls ((rd_T57 l0_1 x19_2).f0) 0 (wrap64 ((wrap64 (2 * (wrap64 ((wrap64 (1 + a0_0)) + x19_2)))) - 1)) true _ A13.out).mono ?_); rintro e w' ⟨rfl, ⟨nd, rfl⟩⟩; refine ⟨_, rfl, ?_⟩) | (go_at_call 41; (with_reducible refine (impl_in.calls ((rd_T57 l0_1 x19_2).f1) 0 (wrap64 ((wrap64 (2 * (wrap64 ((wrap64 (1 + a0_0)) + x19_2)))) - 1)) true _ A15.out).mono ?_); rintro e w' ⟨rfl, ⟨nd, rfl⟩⟩))
           go_roundg k2
           case measure => have := HJ1.out; have := HK2.out; omega
           case rel => exact ⟨(wrap64 (x19_2 + 1)), (by first | rfl | (simp; done) | (simp [*]; done)), H', ⟨by have := HJ1.out; have := HK2.out; omega⟩, ⟨by (with_reducible repeat (first | refine Ya ?_ _ | refine Yb ?_ | refine Yc ?_ _)); refine blk_far ?_ NB150_153.out _; (with_reducible repeat (first | refine Ya ?_ _ | refine Yb ?_ | refine Yc ?_ _)); refine blk_far ?_ NB150_153.out _; (with_reducible repeat (first | refine Ya ?_ _ | refine Yb ?_ | refine Yc ?_ _)); exact BK150.out⟩, ⟨by repeat (first | (with_reducible first | exact HB.out | apply Yf | apply Yg | apply Yh | refine Yi ?_ GE150.out | refine Yi ?_ GE153.out) | exact HB.out)⟩⟩
          ·replace c16 := Bool.eq_false_iff.mpr c16
           subst c16
           have H1 : (some false) = some r := by rw [if_neg (show ¬ (false = true) by decide)] at H; exact H
           clear H
           have H := H1
           clear H1
           obtain rfl := Option.some.inj H
           have p152 : 0 ≤ (x19_2 : Int) := of_decide_eq_true (by first | (with_reducible assumption) | assumption)
           have q152 : x19_2 < (l0_1.length : Int) := of_decide_eq_true (by first | (with_reducible assumption) | assumption)
           obtain ⟨ad152, e152, hx152_0, hx152_1⟩ := at_T57 HR0_1.out x19_2 p152 q152
           cases e152
           replace hx152_0 := (HB.out.cell (World.block_lt_of_cell? w _ hx152_0)).trans hx152_0
           replace hx152_1 := (HB.out.cell (World.block_lt_of_cell? w _ hx152_1)).trans hx152_1
           replace p152 := eq_true p152
           replace q152 := eq_true q152
           go_wp2_with (first | ((with_reducible refine gate_dst (N := 4) rfl ?_); (try (refine gate_guard (by rfl) ?_; dsimp only)); refine box_event ?hg (N := 4) ?hd (cs := #[.int .i64 0, .int .i64 0]) (t := 57) ?hr ?_; (case hd => rfl); (case hg => rfl); (case hr => first | (go_simp; done) | (go_simp; rfl)); intro gb153 hg w21 hbox hb; have n0_ := Yj (blk_below (g := gb150) (o := .cells #[.int .i64 a0_0, .slice (some ad152) l0_1.length c0_1] 28 (0, 0)) (by (with_reducible repeat (first | refine Ya ?_ _ | refine Yb ?_ | refine Yc ?_ _)); exact BK150.out) hb); have n1_ := Yj (below_step (by repeat (first | (with_reducible first | exact HB.out | apply Yf | apply Yg | apply Yh | refine Yi ?_ GE150.out) | exact HB.out)) hb); have n2_ := Yj (hbox); have n3_ := Yj ((by rw [hg]; exact (below_size (by repeat (first | (with_reducible first | exact HB.out | apply Yf | apply Yg | apply Yh | refine Yi ?_ GE150.out) | exact HB.out))) : w.heap.size ≤ gb153)); have n4_ := Yj ((by rw [hg]; exact (below_size (by repeat (first | (with_reducible first | exact HB.out | apply Yf | apply Yg | apply Yh | refine Yi ?_ GE150.out) | exact HB.out))) : w.heap.size ≤ gb153)); have n5_ := Yj ((by rw [hg]; exact Nat.ne_of_lt (blk_lt (g := gb150) (o := .cells #[.int .i64 a0_0, .slice (some ad152) l0_1.length c0_1] 28 (0, 0)) (by (with_reducible repeat (first | refine Ya ?_ _ | refine Yb ?_ | refine Yc ?_ _)); exact BK150.out)) : gb150 ≠ gb153)); have n6_ := Yj ((by rw [hg]; exact Nat.ne_of_gt (blk_lt (g := gb150) (o := .cells #[.int .i64 a0_0, .slice (some ad152) l0_1.length c0_1] 28 (0, 0)) (by (with_reducible repeat (first | refine Ya ?_ _ | refine Yb ?_ | refine Yc ?_ _)); exact BK150.out)) : gb153 ≠ gb150)); clear BK150; clear HB; have BK150 := n0_; have HB := n1_; have BK153 := n2_; have GW153 := n3_; have GE153 := n4_; have NB150_153 := n5_; have NB153_150 := n6_; clear n0_ n1_ n2_ n3_ n4_ n5_ n6_; clear hb hbox hg; have hnb22 := NB153_150.out; have hnc22 := NB150_153.out; have hcz23_0 : w21.cell? ⟨gb153, 0, none⟩ = some (.int .i64 0) := (Yd BK153.out 0).trans rfl; have hcz23_1 : w21.cell? ⟨gb153, 1, none⟩ = some (.int .i64 0) := (Yd BK153.out 1).trans rfl; have hfz23_0 := Ye BK153.out 0; have hfz23_1 := Ye BK153.out 1; have hcz24_0 : w21.cell? ⟨gb150, 0, none⟩ = some (.int .i64 a0_0) := (Yd BK150.out 0).trans rfl; have hcz24_1 : w21.cell? ⟨gb150, 1, none⟩ = some (.slice (some ad152) l0_1.length c0_1) := (Yd BK150.out 1).trans rfl; have hfz24_0 := Ye BK150.out 0; have hfz24_1 := Ye BK150.out 1) | ((with_reducible refine gate_callee (f := 41) rfl ?_); refine goesL_ (some 34) rfl rfl Try.func41 (by kernel_rfl) rfl #[.int .i64 ((rd_T57 l0_1 x19_2).f0), .int .i64 0, .int .i64 (wrap64 ((wrap64 (2 * (wrap64 ((wrap64 (1 + a0_0)) + x19_2)))) - 1))] rfl (by (try simp only [List.map_toArray, List.map_cons, List.map_nil]); first | done | rfl | (simp only [List.length_drop, List.length_take]; rfl)) ?_; (with_reducible refine (impl_in.calls ((rd_T57 l0_1 x19_2).f0) 0 (wrap64 ((wrap64 (2 * (wrap64 ((wrap64 (1 + a0_0)) + x19_2)))) - 1)) true _ A13.out).mono ?_); rintro e w' ⟨rfl, ⟨nd, rfl⟩⟩; refine ⟨_, rfl, ?_⟩) | (go_at_call 41; (with_reducible refine (impl_in.calls ((rd_T57 l0_1 x19_2).f1) 0 (wrap64 ((wrap64 (2 * (wrap64 ((wrap64 (1 + a0_0)) + x19_2)))) - 1)) false _ A15.out).mono ?_); rintro e w' ⟨rfl, ⟨nd, rfl⟩⟩))
           go_ret
           exact ⟨by first | rfl | (simp [errW_none, errW_some] <;> rfl) | (simp [*, errW_none, errW_some] <;> rfl), by repeat (first | (with_reducible first | exact HB.out | apply Yf | apply Yg | apply Yh | refine Yi ?_ GE150.out | refine Yi ?_ GE153.out) | exact HB.out)⟩
         ·replace c14 := Bool.eq_false_iff.mpr c14
          subst c14
          have H1 : (some false) = some r := by rw [if_neg (show ¬ (false = true) by decide)] at H; exact H
          clear H
          have H := H1
          clear H1
          obtain rfl := Option.some.inj H
          have p152 : 0 ≤ (x19_2 : Int) := of_decide_eq_true (by first | (with_reducible assumption) | assumption)
          have q152 : x19_2 < (l0_1.length : Int) := of_decide_eq_true (by first | (with_reducible assumption) | assumption)
          obtain ⟨ad152, e152, hx152_0, hx152_1⟩ := at_T57 HR0_1.out x19_2 p152 q152
          cases e152
          replace hx152_0 := (HB.out.cell (World.block_lt_of_cell? w _ hx152_0)).trans hx152_0
          replace hx152_1 := (HB.out.cell (World.block_lt_of_cell? w _ hx152_1)).trans hx152_1
          replace p152 := eq_true p152
          replace q152 := eq_true q152
          go_wp2_with (first | ((with_reducible refine gate_dst (N := 4) rfl ?_); (try (refine gate_guard (by rfl) ?_; dsimp only)); refine box_event ?hg (N := 4) ?hd (cs := #[.int .i64 0, .int .i64 0]) (t := 57) ?hr ?_; (case hd => rfl); (case hg => rfl); (case hr => first | (go_simp; done) | (go_simp; rfl)); intro gb153 hg w25 hbox hb; have n0_ := Yj (blk_below (g := gb150) (o := .cells #[.int .i64 a0_0, .slice (some ad152) l0_1.length c0_1] 28 (0, 0)) (by (with_reducible repeat (first | refine Ya ?_ _ | refine Yb ?_ | refine Yc ?_ _)); exact BK150.out) hb); have n1_ := Yj (below_step (by repeat (first | (with_reducible first | exact HB.out | apply Yf | apply Yg | apply Yh | refine Yi ?_ GE150.out) | exact HB.out)) hb); have n2_ := Yj (hbox); have n3_ := Yj ((by rw [hg]; exact (below_size (by repeat (first | (with_reducible first | exact HB.out | apply Yf | apply Yg | apply Yh | refine Yi ?_ GE150.out) | exact HB.out))) : w.heap.size ≤ gb153)); have n4_ := Yj ((by rw [hg]; exact (below_size (by repeat (first | (with_reducible first | exact HB.out | apply Yf | apply Yg | apply Yh | refine Yi ?_ GE150.out) | exact HB.out))) : w.heap.size ≤ gb153)); have n5_ := Yj ((by rw [hg]; exact Nat.ne_of_lt (blk_lt (g := gb150) (o := .cells #[.int .i64 a0_0, .slice (some ad152) l0_1.length c0_1] 28 (0, 0)) (by (with_reducible repeat (first | refine Ya ?_ _ | refine Yb ?_ | refine Yc ?_ _)); exact BK150.out)) : gb150 ≠ gb153)); have n6_ := Yj ((by rw [hg]; exact Nat.ne_of_gt (blk_lt (g := gb150) (o := .cells #[.int .i64 a0_0, .slice (some ad152) l0_1.length c0_1] 28 (0, 0)) (by (with_reducible repeat (first | refine Ya ?_ _ | refine Yb ?_ | refine Yc ?_ _)); exact BK150.out)) : gb153 ≠ gb150)); clear BK150; clear HB; have BK150 := n0_; have HB := n1_; have BK153 := n2_; have GW153 := n3_; have GE153 := n4_; have NB150_153 := n5_; have NB153_150 := n6_; clear n0_ n1_ n2_ n3_ n4_ n5_ n6_; clear hb hbox hg; have hnb26 := NB153_150.out; have hnc26 := NB150_153.out; have hcz27_0 : w25.cell? ⟨gb153, 0, none⟩ = some (.int .i64 0) := (Yd BK153.out 0).trans rfl; have hcz27_1 : w25.cell? ⟨gb153, 1, none⟩ = some (.int .i64 0) := (Yd BK153.out 1).trans rfl; have hfz27_0 := Ye BK153.out 0; have hfz27_1 := Ye BK153.out 1; have hcz28_0 : w25.cell? ⟨gb150, 0, none⟩ = some (.int .i64 a0_0) := (Yd BK150.out 0).trans rfl; have hcz28_1 : w25.cell? ⟨gb150, 1, none⟩ = some (.slice (some ad152) l0_1.length c0_1) := (Yd BK150.out 1).trans rfl; have hfz28_0 := Ye BK150.out 0; have hfz28_1 := Ye BK150.out 1) | ((with_reducible refine gate_callee (f := 41) rfl ?_); refine goesL_ (some 34) rfl rfl Try.func41 (by kernel_rfl) rfl #[.int .i64 ((rd_T57 l0_1 x19_2).f0), .int .i64 0, .int .i64 (wrap64 ((wrap64 (2 * (wrap64 ((wrap64 (1 + a0_0)) + x19_2)))) - 1))] rfl (by (try simp only [List.map_toArray, List.map_cons, List.map_nil]); first | done | rfl | (simp only [List.length_drop, List.length_take]; rfl)) ?_; (with_reducible refine (impl_in.calls ((rd_T57 l0_1 x19_2).f0) 0 (wrap64 ((wrap64 (2 * (wrap64 ((wrap64 (1 + a0_0)) + x19_2)))) - 1)) false _ A13.out).mono ?_); rintro e w' ⟨rfl, ⟨nd, rfl⟩⟩; refine ⟨_, rfl, ?_⟩))
          go_ret
          exact ⟨by first | rfl | (simp [errW_none, errW_some] <;> rfl) | (simp [*, errW_none, errW_some] <;> rfl), by repeat (first | (with_reducible first | exact HB.out | apply Yf | apply Yg | apply Yh | refine Yi ?_ GE150.out | refine Yi ?_ GE153.out) | exact HB.out)⟩
        ·rw [if_neg c12] at H
         exact absurd H (by simp)
       ·rw [if_neg c11] at H
        exact absurd H (by simp)
      ·rw [if_neg c10] at H
       have c10b0 : decide (x19_2 < (l0_1.length : Int)) = false := decide_eq_false c10
       clear c10
       obtain rfl := Option.some.inj H
       go_wp2
       go_ret
       exact ⟨by first | rfl | (simp [errW_none, errW_some] <;> rfl) | (simp [*, errW_none, errW_some] <;> rfl), by repeat (first | (with_reducible first | exact HB.out | apply Yf | apply Yg | apply Yh | refine Yi ?_ GE150.out) | exact HB.out)⟩

/-! ### impl_Circuit_isEdge: function 24 -/
def impl_Circuit_isEdge.f (a0_0 : Int) (l0_1 : List (S57)) (a1 : Int) : Option (Bool) := (impl_in.f a1 0 (wrap64 ((wrap64 (2 * (wrap64 ((wrap64 (1 + a0_0)) + (l0_1.length : Int))))) - 1))).bind fun t157 => (some t157)
set_option maxHeartbeats 8000000 in
set_option maxRecDepth 100000 in
theorem impl_Circuit_isEdge.calls (a0_0 : Int) (A0_1 : Option Addr) (c0_1 : Nat) (l0_1 : List (S57)) (a1 : Int) (r : Bool) (w : World) (hr0_1 : Kd.C k57 w A0_1 l0_1.length l0_1) (hc0_1 : l0_1.length ≤ c0_1) (h : impl_Circuit_isEdge.f a0_0 l0_1 a1 = some r) :
  Calls Try.prog 24 #[.agg #[.int .i64 a0_0, .slice A0_1 l0_1.length c0_1], .int .i64 a1] w fun e w' => e = .returned (.bool r) ∧ Below w.heap.size w w' := by
 have hu28 := Try.underlying28
 have HR0_1 := Yj hr0_1
 have HC0_1 := Yj hc0_1
 clear hr0_1 hc0_1
 have HB := Yj (Below.refl w.heap.size w)
 have H : ((impl_in.f a1 0 (wrap64 ((wrap64 (2 * (wrap64 ((wrap64 (1 + a0_0)) + (l0_1.length : Int))))) - 1))).bind fun t157 => (some t157)) = some r := h
 clear h
 replace H := Option.bind_eq_some_iff.mp H
 obtain ⟨t157, A30, H⟩ := H
 replace H : (some t157) = some r := H
 have A3 := Yj A30
 clear A30
 obtain rfl := Option.some.inj H
 go_enter Try.func24, Try.ntmps24
 go_wp2_with (first | ((with_reducible refine gate_dst (N := 2) rfl ?_); refine box_event ?hg (N := 2) ?hd (cs := #[.int .i64 a0_0, .slice A0_1 l0_1.length c0_1]) (t := 28) ?hr ?_; (case hd => rfl); (case hg => rfl); (case hr => first | (go_simp; done) | (go_simp; rfl)); intro gb156 hg w4 hbox hb; have n0_ := Yj (below_step (by repeat (first | (with_reducible first | exact HB.out | apply Yf | apply Yg | apply Yh) | exact HB.out)) hb); have n1_ := Yj (hbox); have n2_ := Yj ((by rw [hg]; exact (below_size (by repeat (first | (with_reducible first | exact HB.out | apply Yf | apply Yg | apply Yh) | exact HB.out))) : w.heap.size ≤ gb156)); have n3_ := Yj ((by rw [hg]; exact (below_size (by repeat (first | (with_reducible first | exact HB.out | apply Yf | apply Yg | apply Yh) | exact HB.out))) : w.heap.size ≤ gb156)); clear HB; have HB := n0_; have BK156 := n1_; have GW156 := n2_; have GE156 := n3_; clear n0_ n1_ n2_ n3_; clear hb hbox hg; have hcz5_0 : w4.cell? ⟨gb156, 0, none⟩ = some (.int .i64 a0_0) := (Yd BK156.out 0).trans rfl; have hcz5_1 : w4.cell? ⟨gb156, 1, none⟩ = some (.slice A0_1 l0_1.length c0_1) := (Yd BK156.out 1).trans rfl; have hfz5_0 := Ye BK156.out 0; have hfz5_1 := Ye BK156.out 1) | ((with_reducible refine gate_callee (f := 41) rfl ?_); refine goesL_ (some 15) rfl rfl Try.func41 (by kernel_rfl) rfl #[.int .i64 a1, .int .i64 0, .int .i64 (wrap64 ((wrap64 (2 * (wrap64 ((wrap64 (1 + a0_0)) + (l0_1.length : Int))))) - 1))] rfl (by (try simp only [List.map_toArray, List.map_cons, List.map_nil]); first | done | rfl | (simp only [List.length_drop, List.length_take]; rfl)) ?_; (with_reducible refine (impl_in.calls a1 0 (wrap64 ((wrap64 (2 * (wrap64 ((wrap64 (1 + a0_0)) + (l0_1.length : Int))))) - 1)) t157 _ A3.out).mono ?_); rintro e w' ⟨rfl, ⟨nd, rfl⟩⟩; refine ⟨_, rfl, ?_⟩))
 go_ret
 exact ⟨by first | rfl | (simp [errW_none, errW_some] <;> rfl) | (simp [*, errW_none, errW_some] <;> rfl), by repeat (first | (with_reducible first | exact HB.out | apply Yf | apply Yg | apply Yh | refine Yi ?_ GE156.out) | exact HB.out)⟩

/-! ### impl_And_42: function 42 (by hand) -/
def impl_And_42.f (l0 : List (S57)) : Option (List (S57)) := if l0.length ≤ 8796093022208 then some l0 else none
theorem impl_And_42.eq_nil {P : Program} {t e : TypeId} (h : P.underlying t = some (.slice e)) (w : World) (a : Option Addr) (n c : Nat) : (binOp .eql t (.slice a n c) (.slice none 0 0)).run P w = .ok (.bool a.isNone) w := by
 have q1 : ∀ d, (Op.equalIn (d + 1) t (.slice a n c) (.slice none 0 0)).run P w = .ok a.isNone w := by
  intro d
  cases a <;> simp [Op.equalIn, run_underlying h]
 simp only [binOp]
 simp [Op.equal, Op.maxDepth, q1 9999]
set_option maxHeartbeats 4000000 in
set_option maxRecDepth 100000 in
theorem impl_And_42.calls (A0 : Option Addr) (c0 : Nat) (l0 : List (S57)) (r : List (S57)) (w : World) (hr0 : Kd.C k57 w A0 l0.length l0) (hc0 : l0.length ≤ c0) (h : impl_And_42.f l0 = some r) :
  Calls Try.prog 42 #[.slice A0 l0.length c0] w fun e w' => ∃ v0_ : Value, e = .returned v0_ ∧ Kd.R k57 57 w' w.heap.size (fun _ => True) v0_ r ∧ Below w.heap.size w w' := by
 unfold impl_And_42.f at h
 by_cases hlim : l0.length ≤ 8796093022208
 ·rw [if_pos hlim] at h
  obtain rfl := Option.some.inj h
  clear h
  have HR0 := Yj hr0
  have HC0 := Yj hc0
  clear hr0 hc0
  have qn : ∀ (w : World) (a : Option Addr) (n c : Nat), (binOp .eql 26 (.slice a n c) (.slice none 0 0)).run Try.prog w = .ok (.bool a.isNone) w := fun w a n c => impl_And_42.eq_nil Try.underlying26 w a n c
  cases A0 with
  | none =>
   have hz : l0 = [] := by
    by_cases hz : l0 = []
    ·exact hz
    ·exfalso
     have hp := List.length_pos_iff.mpr hz
     obtain ⟨ad, e, _⟩ := at_T57 HR0.out 0 (by omega) (by omega)
     cases e
   subst hz
   go_enter Try.func42, Try.ntmps42
   go_wp2
   (try simp only [qn])
   (try go_wp2)
   go_ret
   exact ⟨_, rfl, Kd.R_nil _ _ _ _ _, Below.refl _ _⟩
  | some ad =>
   go_enter Try.func42, Try.ntmps42
   go_wp2_with (first | ((with_reducible refine gate_dst (N := 5) rfl ?_); refine Kd.R_lit k57 _ 57 ?hg (N := 5) ?hd (xs := ([] : List (S57))) (inner := []) (ok := fun _ => True) (okp := fun _ => True) ?hr ?hp (fun _ hk => hk) trivial (Below.refl _ _) (Nat.le_refl _) (by simp) ?_; (case hd => rfl); (case hg => rfl); (case hr => first | (go_simp; done) | (go_simp; rfl)); (case hp => exact (Reps.none _ _)); intro v1 w1 ho hb hg_ hnew_; clear hg_ hnew_; have HO := Yj ho; have HB := Yj hb; clear ho hb) | ((with_reducible refine gate_builtin (b := .append) (xs := #[.tmp 5, .tmp 6]) rfl ?_); at_builtin; refine Kd.R_append_rows k57 (w0 := w) w.heap.size rfl (.tmp 5) (.tmp 6) 26 57 (.agg #[(.int .i64 0), (.int .i64 0)]) 16 rfl Try.underlying26 info57 rfl (by decide) (by omega) v1 ([] : List (S57)) l0 _ _ _ (fun _ => True) (fun _ => False) rfl rfl (Kd.R_lower HO.out (Nat.le_refl _)) (Kd.C_below HR0.out HB.out) (fun x_ _ h_ => by rw [k57_open h_]; exact k57_mkM _ _ _ x_) (fun _ h => h.elim) (fun _ _ => trivial) HB.out (below_size HB.out) (by simp only [List.length_nil, Nat.zero_add]; omega) ?_; intro v2 w2 ho hb hg hat; rw [List.nil_append] at ho; have HO2 := Yj ho; have HB2 := Yj hb; clear ho hb hg hat))
   go_ret
   exact ⟨_, rfl, HO2.out, HB2.out⟩
 ·rw [if_neg hlim] at h
  exact absurd h (by simp)

end Go.Proofs.Ythphgkhmeobadaa.XFnAddAndOr
