/- Printed by a program of this session out of the translation: the Go functions that a law uses as plain Lean functions, with the proofs of their calls, or the law's row.
Conditions: those that each theorem states. -/
import Derived.Test.YthphgkhmeobadabXFnSameEdgesx0
import Derived.Test.YthphgkhmeobadabXFnSameEdgesx7
import Derived.Test.YthphgkhmeobadabXFnSameEdgesx10
namespace Go.Proofs.Ythphgkhmeobadab.XFnSameEdges
open Go.RowKit Go.Proofs.YthphgkhmeobadabW.PrintWords Go.Proofs.YthphgkhmeobadabW.PrintLast Go.Proofs.YthphgkhmeobadabW.PrintMore
attribute [local go_sem] max2_int min2_int max_two min_two max_three min_three max_four min_four   -- for this text's walks alone
set_option linter.unusedVariables false
set_option linter.unusedSimpArgs false

/-! ### impl_EdgeValue: function 16 -/
def impl_EdgeValue.j0 : Nat → List Int → Int → Bool → Int → List (S73) → Option (Int)
 | 0, _, _, _, _, _ => none
 | k + 1, x1, x2, x27, x334000, x334001 => if x27 = true then (some (-1)) else ((impl_Circuit_values.f k x334000 x334001 x1).bind fun t337 => ((impl_edgeOf.f t337 x2).bind fun t340 => (some t340)))
def impl_EdgeValue.f (k : Nat) (a0_0 : Int) (l0_1 : List (S73)) (l1 : List Int) (a2 : Int) : Option (Int) := (impl_CircuitValid.f k a0_0 l0_1).bind fun t334 => (if t334 = true then (if (l1.length : Int) = a0_0 then ((impl_bitsValid.f k l1).bind fun t335 => (if t335 = true then ((impl_Circuit_isEdge.f a0_0 l0_1 a2).bind fun t336 => (impl_EdgeValue.j0 k l1 a2 (!t336) a0_0 l0_1)) else (impl_EdgeValue.j0 k l1 a2 true a0_0 l0_1))) else (impl_EdgeValue.j0 k l1 a2 true a0_0 l0_1)) else (impl_EdgeValue.j0 k l1 a2 true a0_0 l0_1))
theorem impl_EdgeValue.mono_l : ∀ k, (∀ y0 y1 y2 y3 y4, LeO (impl_EdgeValue.j0 k y0 y1 y2 y3 y4) (impl_EdgeValue.j0 (k + 1) y0 y1 y2 y3 y4))
 | 0 => fun _ _ _ _ _ r h => by simp [impl_EdgeValue.j0] at h
 | k + 1 => by
  have ih0 := impl_EdgeValue.mono_l k
  ·intro y0 y1 y2 y3 y4
   unfold impl_EdgeValue.j0
   repeat' first
   | (with_reducible exact ih0 _ _ _ _ _)
   | (with_reducible exact impl_CircuitValid.mono _ _ _)
   | (with_reducible exact impl_Circuit_values.mono _ _ _ _)
   | (with_reducible exact impl_bitsValid.mono _ _)
   | (with_reducible exact LeO.refl _)
   | (with_reducible exact LeO.none _)
   | (with_reducible refine LeO.ite ?_ ?_)
   | (with_reducible refine LeO.bind ?_ (fun _ => ?_))
   | exact ih0 _ _ _ _ _
   | exact impl_CircuitValid.mono _ _ _
   | exact impl_Circuit_values.mono _ _ _ _
   | exact impl_bitsValid.mono _ _
   | exact LeO.none _
   | refine LeO.ite ?_ ?_
   | refine LeO.bind ?_ (fun _ => ?_)
theorem impl_EdgeValue.mono : ∀ a0 a1 a2 a3 k, LeO (impl_EdgeValue.f k a0 a1 a2 a3) (impl_EdgeValue.f (k + 1) a0 a1 a2 a3) := by
 intro a0 a1 a2 a3 k
 have ih0 := impl_EdgeValue.mono_l k
 unfold impl_EdgeValue.f
 repeat' first
   | (with_reducible exact ih0 _ _ _ _ _)
   | (with_reducible exact impl_CircuitValid.mono _ _ _)
   | (with_reducible exact impl_Circuit_values.mono _ _ _ _)
   | (with_reducible exact impl_bitsValid.mono _ _)
   | (with_reducible exact LeO.refl _)
   | (with_reducible exact LeO.none _)
   | (with_reducible refine LeO.ite ?_ ?_)
   | (with_reducible refine LeO.bind ?_ (fun _ => ?_))
   | exact ih0 _ _ _ _ _
   | exact impl_CircuitValid.mono _ _ _
   | exact impl_Circuit_values.mono _ _ _ _
   | exact impl_bitsValid.mono _ _
   | exact LeO.none _
   | refine LeO.ite ?_ ?_
   | refine LeO.bind ?_ (fun _ => ?_)
set_option maxHeartbeats 8000000 in
set_option maxRecDepth 100000 in
theorem impl_EdgeValue.calls (k : Nat) (a0_0 : Int) (A0_1 : Option Addr) (c0_1 : Nat) (l0_1 : List (S73)) (A1 : Option Addr) (c1 : Nat) (l1 : List Int) (a2 : Int) (r : Int) (w : World) (hr0_1 : Kd.C k73 w A0_1 l0_1.length l0_1) (hc0_1 : l0_1.length ≤ c0_1) (hr1 : Kd.C (Kd.int .i64) w A1 l1.length l1) (hc1 : l1.length ≤ c1) (h : impl_EdgeValue.f k a0_0 l0_1 l1 a2 = some r) :
  Calls Try.prog 16 #[.agg #[.int .i64 a0_0, .slice A0_1 l0_1.length c0_1], .slice A1 l1.length c1, .int .i64 a2] w fun e w' => e = .returned (.int .i64 r) ∧ Below w.heap.size w w' := by
 have hu36 := Try.underlying36
 have HR0_1 := Yj hr0_1
 have HC0_1 := Yj hc0_1
 clear hr0_1 hc0_1
 have HR1 := Yj hr1
 have HC1 := Yj hc1
 clear hr1 hc1
 have HB := Yj (Below.refl w.heap.size w)
 have H : ((impl_CircuitValid.f k a0_0 l0_1).bind fun t334 => (if t334 = true then (if (l1.length : Int) = a0_0 then ((impl_bitsValid.f k l1).bind fun t335 => (if t335 = true then ((impl_Circuit_isEdge.f a0_0 l0_1 a2).bind fun t336 => (impl_EdgeValue.j0 k l1 a2 (!t336) a0_0 l0_1)) else (impl_EdgeValue.j0 k l1 a2 true a0_0 l0_1))) else (impl_EdgeValue.j0 k l1 a2 true a0_0 l0_1)) else (impl_EdgeValue.j0 k l1 a2 true a0_0 l0_1))) = some r := h
 clear h
 have HC4 := Yj H
 clear H
 go_enter Try.func16, Try.ntmps16
 go_upto_region 1 with (first | ((with_reducible refine gate_dst (N := 3) rfl ?_); (try (refine gate_guard (by rfl) ?_; dsimp only)); refine box_event ?hg (N := 3) ?hd (cs := #[.int .i64 a0_0, .slice A0_1 l0_1.length c0_1]) (t := 36) ?hr ?_; (case hd => rfl); (case hg => rfl); (case hr => first | (go_simp; done) | (go_simp; rfl)); intro gb333 hg w5 hbox hb; have n0_ := Yj (below_step (by repeat (first | (with_reducible first | exact HB.out | apply Yf | apply Yg | apply Yh) | exact HB.out)) hb); have n1_ := Yj (hbox); have n2_ := Yj ((by rw [hg]; exact (below_size (by repeat (first | (with_reducible first | exact HB.out | apply Yf | apply Yg | apply Yh) | exact HB.out))) : w.heap.size ≤ gb333)); have n3_ := Yj ((by rw [hg]; exact (below_size (by repeat (first | (with_reducible first | exact HB.out | apply Yf | apply Yg | apply Yh) | exact HB.out))) : w.heap.size ≤ gb333)); clear HB; have HB := n0_; have BK333 := n1_; have GW333 := n2_; have GE333 := n3_; clear n0_ n1_ n2_ n3_; clear hb hbox hg))
 (try simp only [Act.put, List.setIfInBounds_toArray, List.set_cons_zero, List.set_cons_succ])
 go_cut [27] (fun v27 wc => ∃ (kq : Nat) (x27_3 : Bool), v27 = .bool x27_3 ∧ Aside0 (impl_EdgeValue.j0 kq l1 a2 x27_3 a0_0 l0_1 = some r) ∧ Aside0 (kq ≤ k) ∧ Aside0 (wc.heap[gb333]? = some (.cells #[.int .i64 a0_0, (.slice A0_1 l0_1.length c0_1)] 36 (0, 0))) ∧ Aside0 (Below w.heap.size w wc))
 case first =>
  have H := HC4.out
  clear HC4
  replace H := Yk H
  obtain ⟨t334, A60, H⟩ := H
  replace H : (if t334 = true then (if (l1.length : Int) = a0_0 then ((impl_bitsValid.f k l1).bind fun t335 => (if t335 = true then ((impl_Circuit_isEdge.f a0_0 l0_1 a2).bind fun t336 => (impl_EdgeValue.j0 k l1 a2 (!t336) a0_0 l0_1)) else (impl_EdgeValue.j0 k l1 a2 true a0_0 l0_1))) else (impl_EdgeValue.j0 k l1 a2 true a0_0 l0_1)) else (impl_EdgeValue.j0 k l1 a2 true a0_0 l0_1)) = some r := H
  have A6 := Yj A60
  clear A60
  by_cases c7 : t334 = true
  ·subst c7
   have H1 : (if (l1.length : Int) = a0_0 then ((impl_bitsValid.f k l1).bind fun t335 => (if t335 = true then ((impl_Circuit_isEdge.f a0_0 l0_1 a2).bind fun t336 => (impl_EdgeValue.j0 k l1 a2 (!t336) a0_0 l0_1)) else (impl_EdgeValue.j0 k l1 a2 true a0_0 l0_1))) else (impl_EdgeValue.j0 k l1 a2 true a0_0 l0_1)) = some r := by rw [if_pos rfl] at H; exact H
   clear H
   have H := H1
   clear H1
   by_cases c8 : (l1.length : Int) = a0_0
   ·rw [if_pos c8] at H
    have c8b0 : ((l1.length : Int) == a0_0) = true := beq_iff_eq.mpr c8
    have c8b1 : ((l1.length : Int) != a0_0) = false := bne_eq_false_iff_eq.mpr c8
    clear c8
    (first | rw [c8b0] | (simp only [i64_w, i32_w]; rw [c8b0]) | rw [c8b1] | simp only [c8b1] | skip)
    replace H := Yk H
    obtain ⟨t335, A90, H⟩ := H
    replace H : (if t335 = true then ((impl_Circuit_isEdge.f a0_0 l0_1 a2).bind fun t336 => (impl_EdgeValue.j0 k l1 a2 (!t336) a0_0 l0_1)) else (impl_EdgeValue.j0 k l1 a2 true a0_0 l0_1)) = some r := H
    have A9 := Yj A90
    clear A90
    by_cases c10 : t335 = true
    ·subst c10
     have H1 : ((impl_Circuit_isEdge.f a0_0 l0_1 a2).bind fun t336 => (impl_EdgeValue.j0 k l1 a2 (!t336) a0_0 l0_1)) = some r := by rw [if_pos rfl] at H; exact H
     clear H
     have H := H1
     clear H1
     replace H := Yk H
     obtain ⟨t336, A110, H⟩ := H
     replace H : (impl_EdgeValue.j0 k l1 a2 (!t336) a0_0 l0_1) = some r := H
     have A11 := Yj A110
     clear A110
     have H' := Yj H
     clear H
     have hcz12_0 : w5.cell? ⟨gb333, 0, none⟩ = some (.int .i64 a0_0) := (Yd BK333.out 0).trans rfl
     have hcz12_1 : w5.cell? ⟨gb333, 1, none⟩ = some (.slice A0_1 l0_1.length c0_1) := (Yd BK333.out 1).trans rfl
     have hfz12_0 := Ye BK333.out 0
     have hfz12_1 := Ye BK333.out 1
     go_wp2_with (first | ((with_reducible refine gate_callee (f := 14) rfl ?_); refine goesL_ (some 8) rfl rfl Try.func14 (by kernel_rfl) rfl #[.agg #[.int .i64 a0_0, .slice A0_1 l0_1.length c0_1]] rfl (by (try simp only [List.map_toArray, List.map_cons, List.map_nil]); first | done | rfl | (simp only [List.length_drop, List.length_take]; rfl)) ?_; (with_reducible refine (impl_CircuitValid.calls k a0_0 _ _ l0_1 true _ ?side1 ?side2 A6.out).mono ?_); (case side1 => repeat (first | exact (Kd.C_below HR0_1.out HB.out) | (with_reducible refine Kd.C_alloc ?_ _) | (with_reducible refine Kd.C_drewN ?_ _) | (with_reducible refine Kd.C_drew ?_))); (case side2 => exact HC0_1.out); rintro e w13 ⟨rfl, hb⟩; refine ⟨_, rfl, ?_⟩; have n0_ := Yj (blk_below (g := gb333) (o := .cells #[.int .i64 a0_0, .slice A0_1 l0_1.length c0_1] 36 (0, 0)) (by (with_reducible repeat (first | refine Ya ?_ _ | refine Yb ?_ | refine Yc ?_ _)); exact BK333.out) hb); have n1_ := Yj (below_step (by repeat (first | (with_reducible first | exact HB.out | apply Yf | apply Yg | apply Yh | refine Yi ?_ GE333.out) | exact HB.out)) hb); clear BK333; clear HB; have BK333 := n0_; have HB := n1_; clear n0_ n1_; (try clear hb); (try clear hb2); (try clear hk); (try clear hi); have hcz14_0 : w13.cell? ⟨gb333, 0, none⟩ = some (.int .i64 a0_0) := (Yd BK333.out 0).trans rfl; have hcz14_1 : w13.cell? ⟨gb333, 1, none⟩ = some (.slice A0_1 l0_1.length c0_1) := (Yd BK333.out 1).trans rfl; have hfz14_0 := Ye BK333.out 0; have hfz14_1 := Ye BK333.out 1) | (go_at_call 49; (with_reducible refine (impl_bitsValid.calls k _ _ l1 true _ ?side1 ?side2 A9.out).mono ?_); (case side1 => repeat (first | exact (Kd.C_below HR1.out HB.out) | (with_reducible refine Kd.C_alloc ?_ _) | (with_reducible refine Kd.C_drewN ?_ _) | (with_reducible refine Kd.C_drew ?_))); (case side2 => exact HC1.out); rintro e w' ⟨rfl, ⟨nd, rfl⟩⟩) | (go_at_call 40; (with_reducible refine (impl_Circuit_isEdge.calls a0_0 _ _ l0_1 a2 t336 _ ?side1 ?side2 A11.out).mono ?_); (case side1 => repeat (first | exact (Kd.C_below HR0_1.out (by repeat (first | (with_reducible first | exact HB.out | apply Yf | apply Yg | apply Yh | refine Yi ?_ GE333.out) | exact HB.out))) | (with_reducible refine Kd.C_alloc ?_ _) | (with_reducible refine Kd.C_drewN ?_ _) | (with_reducible refine Kd.C_drew ?_))); (case side2 => exact HC0_1.out); rintro e w15 ⟨rfl, hb⟩; have n0_ := Yj (blk_below (g := gb333) (o := .cells #[.int .i64 a0_0, .slice A0_1 l0_1.length c0_1] 36 (0, 0)) (by (with_reducible repeat (first | refine Ya ?_ _ | refine Yb ?_ | refine Yc ?_ _)); exact BK333.out) hb); have n1_ := Yj (below_step (by repeat (first | (with_reducible first | exact HB.out | apply Yf | apply Yg | apply Yh | refine Yi ?_ GE333.out) | exact HB.out)) hb); clear BK333; clear HB; have BK333 := n0_; have HB := n1_; clear n0_ n1_; (try clear hb); (try clear hb2); (try clear hk); (try clear hi)))
     go_meet
     case rel => exact ⟨_, (!t336), (by first | rfl | (simp; done) | (simp [*]; done)), H', ⟨by first | omega | exact Nat.le_refl _⟩, ⟨by (with_reducible repeat (first | refine Ya ?_ _ | refine Yb ?_ | refine Yc ?_ _)); exact BK333.out⟩, ⟨by repeat (first | (with_reducible first | exact HB.out | apply Yf | apply Yg | apply Yh | refine Yi ?_ GE333.out) | exact HB.out)⟩⟩
    ·replace c10 := Bool.eq_false_iff.mpr c10
     subst c10
     have H1 : (impl_EdgeValue.j0 k l1 a2 true a0_0 l0_1) = some r := by rw [if_neg (show ¬ (false = true) by decide)] at H; exact H
     clear H
     have H := H1
     clear H1
     have H' := Yj H
     clear H
     have hcz16_0 : w5.cell? ⟨gb333, 0, none⟩ = some (.int .i64 a0_0) := (Yd BK333.out 0).trans rfl
     have hcz16_1 : w5.cell? ⟨gb333, 1, none⟩ = some (.slice A0_1 l0_1.length c0_1) := (Yd BK333.out 1).trans rfl
     have hfz16_0 := Ye BK333.out 0
     have hfz16_1 := Ye BK333.out 1
     go_wp2_with (first | ((with_reducible refine gate_callee (f := 14) rfl ?_); refine goesL_ (some 8) rfl rfl Try.func14 (by kernel_rfl) rfl #[.agg #[.int .i64 a0_0, .slice A0_1 l0_1.length c0_1]] rfl (by (try simp only [List.map_toArray, List.map_cons, List.map_nil]); first | done | rfl | (simp only [List.length_drop, List.length_take]; rfl)) ?_; (with_reducible refine (impl_CircuitValid.calls k a0_0 _ _ l0_1 true _ ?side1 ?side2 A6.out).mono ?_); (case side1 => repeat (first | exact (Kd.C_below HR0_1.out HB.out) | (with_reducible refine Kd.C_alloc ?_ _) | (with_reducible refine Kd.C_drewN ?_ _) | (with_reducible refine Kd.C_drew ?_))); (case side2 => exact HC0_1.out); rintro e w17 ⟨rfl, hb⟩; refine ⟨_, rfl, ?_⟩; have n0_ := Yj (blk_below (g := gb333) (o := .cells #[.int .i64 a0_0, .slice A0_1 l0_1.length c0_1] 36 (0, 0)) (by (with_reducible repeat (first | refine Ya ?_ _ | refine Yb ?_ | refine Yc ?_ _)); exact BK333.out) hb); have n1_ := Yj (below_step (by repeat (first | (with_reducible first | exact HB.out | apply Yf | apply Yg | apply Yh | refine Yi ?_ GE333.out) | exact HB.out)) hb); clear BK333; clear HB; have BK333 := n0_; have HB := n1_; clear n0_ n1_; (try clear hb); (try clear hb2); (try clear hk); (try clear hi); have hcz18_0 : w17.cell? ⟨gb333, 0, none⟩ = some (.int .i64 a0_0) := (Yd BK333.out 0).trans rfl; have hcz18_1 : w17.cell? ⟨gb333, 1, none⟩ = some (.slice A0_1 l0_1.length c0_1) := (Yd BK333.out 1).trans rfl; have hfz18_0 := Ye BK333.out 0; have hfz18_1 := Ye BK333.out 1) | (go_at_call 49; (with_reducible refine (impl_bitsValid.calls k _ _ l1 false _ ?side1 ?side2 A9.out).mono ?_); (case side1 => repeat (first | exact (Kd.C_below HR1.out HB.out) | (with_reducible refine Kd.C_alloc ?_ _) | (with_reducible refine Kd.C_drewN ?_ _) | (with_reducible refine Kd.C_drew ?_))); (case side2 => exact HC1.out); rintro e w' ⟨rfl, ⟨nd, rfl⟩⟩))
     go_meet
     case rel => exact ⟨_, (true), (by first | rfl | (simp; done) | (simp [*]; done)), H', ⟨by first | omega | exact Nat.le_refl _⟩, ⟨by (with_reducible repeat (first | refine Ya ?_ _ | refine Yb ?_ | refine Yc ?_ _)); exact BK333.out⟩, ⟨by repeat (first | (with_reducible first | exact HB.out | apply Yf | apply Yg | apply Yh | refine Yi ?_ GE333.out) | exact HB.out)⟩⟩
   ·rw [if_neg c8] at H
    have c8b0 : ((l1.length : Int) == a0_0) = false := beq_eq_false_iff_ne.mpr c8
    have c8b1 : ((l1.length : Int) != a0_0) = true := bne_iff_ne.mpr c8
    (first | rw [c8b0] | (simp only [i64_w, i32_w]; rw [c8b0]) | rw [c8b1] | simp only [c8b1] | skip)
    have H' := Yj H
    clear H
    have hcz19_0 : w5.cell? ⟨gb333, 0, none⟩ = some (.int .i64 a0_0) := (Yd BK333.out 0).trans rfl
    have hcz19_1 : w5.cell? ⟨gb333, 1, none⟩ = some (.slice A0_1 l0_1.length c0_1) := (Yd BK333.out 1).trans rfl
    have hfz19_0 := Ye BK333.out 0
    have hfz19_1 := Ye BK333.out 1
    go_wp2_with (first | ((with_reducible refine gate_callee (f := 14) rfl ?_); refine goesL_ (some 8) rfl rfl Try.func14 (by kernel_rfl) rfl #[.agg #[.int .i64 a0_0, .slice A0_1 l0_1.length c0_1]] rfl (by (try simp only [List.map_toArray, List.map_cons, List.map_nil]); first | done | rfl | (simp only [List.length_drop, List.length_take]; rfl)) ?_; (with_reducible refine (impl_CircuitValid.calls k a0_0 _ _ l0_1 true _ ?side1 ?side2 A6.out).mono ?_); (case side1 => repeat (first | exact (Kd.C_below HR0_1.out HB.out) | (with_reducible refine Kd.C_alloc ?_ _) | (with_reducible refine Kd.C_drewN ?_ _) | (with_reducible refine Kd.C_drew ?_))); (case side2 => exact HC0_1.out); rintro e w20 ⟨rfl, hb⟩; refine ⟨_, rfl, ?_⟩; have n0_ := Yj (blk_below (g := gb333) (o := .cells #[.int .i64 a0_0, .slice A0_1 l0_1.length c0_1] 36 (0, 0)) (by (with_reducible repeat (first | refine Ya ?_ _ | refine Yb ?_ | refine Yc ?_ _)); exact BK333.out) hb); have n1_ := Yj (below_step (by repeat (first | (with_reducible first | exact HB.out | apply Yf | apply Yg | apply Yh | refine Yi ?_ GE333.out) | exact HB.out)) hb); clear BK333; clear HB; have BK333 := n0_; have HB := n1_; clear n0_ n1_; (try clear hb); (try clear hb2); (try clear hk); (try clear hi); have hcz21_0 : w20.cell? ⟨gb333, 0, none⟩ = some (.int .i64 a0_0) := (Yd BK333.out 0).trans rfl; have hcz21_1 : w20.cell? ⟨gb333, 1, none⟩ = some (.slice A0_1 l0_1.length c0_1) := (Yd BK333.out 1).trans rfl; have hfz21_0 := Ye BK333.out 0; have hfz21_1 := Ye BK333.out 1))
    go_meet
    case rel => exact ⟨_, (true), (by first | rfl | (simp; done) | (simp [*]; done)), H', ⟨by first | omega | exact Nat.le_refl _⟩, ⟨by (with_reducible repeat (first | refine Ya ?_ _ | refine Yb ?_ | refine Yc ?_ _)); exact BK333.out⟩, ⟨by repeat (first | (with_reducible first | exact HB.out | apply Yf | apply Yg | apply Yh | refine Yi ?_ GE333.out) | exact HB.out)⟩⟩
  ·replace c7 := Bool.eq_false_iff.mpr c7
   subst c7
   have H1 : (impl_EdgeValue.j0 k l1 a2 true a0_0 l0_1) = some r := by rw [if_neg (show ¬ (false = true) by decide)] at H; exact H
   clear H
   have H := H1
   clear H1
   have H' := Yj H
   clear H
   have hcz22_0 : w5.cell? ⟨gb333, 0, none⟩ = some (.int .i64 a0_0) := (Yd BK333.out 0).trans rfl
   have hcz22_1 : w5.cell? ⟨gb333, 1, none⟩ = some (.slice A0_1 l0_1.length c0_1) := (Yd BK333.out 1).trans rfl
   have hfz22_0 := Ye BK333.out 0
   have hfz22_1 := Ye BK333.out 1
   go_wp2_with (first | ((with_reducible refine gate_callee (f := 14) rfl ?_); refine goesL_ (some 8) rfl rfl Try.func14 (by kernel_rfl) rfl #[.agg #[.int .i64 a0_0, .slice A0_1 l0_1.length c0_1]] rfl (by (try simp only [List.map_toArray, List.map_cons, List.map_nil]); first | done | rfl | (simp only [List.length_drop, List.length_take]; rfl)) ?_; (with_reducible refine (impl_CircuitValid.calls k a0_0 _ _ l0_1 false _ ?side1 ?side2 A6.out).mono ?_); (case side1 => repeat (first | exact (Kd.C_below HR0_1.out HB.out) | (with_reducible refine Kd.C_alloc ?_ _) | (with_reducible refine Kd.C_drewN ?_ _) | (with_reducible refine Kd.C_drew ?_))); (case side2 => exact HC0_1.out); rintro e w23 ⟨rfl, hb⟩; refine ⟨_, rfl, ?_⟩; have n0_ := Yj (blk_below (g := gb333) (o := .cells #[.int .i64 a0_0, .slice A0_1 l0_1.length c0_1] 36 (0, 0)) (by (with_reducible repeat (first | refine Ya ?_ _ | refine Yb ?_ | refine Yc ?_ _)); exact BK333.out) hb); have n1_ := Yj (below_step (by repeat (first | (with_reducible first | exact HB.out | apply Yf | apply Yg | apply Yh | refine Yi ?_ GE333.out) | exact HB.out)) hb); clear BK333; clear HB; have BK333 := n0_; have HB := n1_; clear n0_ n1_; (try clear hb); (try clear hb2); (try clear hk); (try clear hi)))
   go_meet
   case rel => exact ⟨_, (true), (by first | rfl | (simp; done) | (simp [*]; done)), H', ⟨by first | omega | exact Nat.le_refl _⟩, ⟨by (with_reducible repeat (first | refine Ya ?_ _ | refine Yb ?_ | refine Yc ?_ _)); exact BK333.out⟩, ⟨by repeat (first | (with_reducible first | exact HB.out | apply Yf | apply Yg | apply Yh | refine Yi ?_ GE333.out) | exact HB.out)⟩⟩
 case rest =>
  clear HC4
  try clear c1
  try clear p2
  try clear c7
  try clear c8
  try clear c8b0
  try clear c8b1
  try clear c10
  try clear c14
  try clear c16
  try clear hcz12_0
  try clear hcz12_1
  try clear hcz14_0
  try clear hcz14_1
  try clear hcz16_0
  try clear hcz16_1
  try clear hcz18_0
  try clear hcz18_1
  try clear hcz19_0
  try clear hcz19_1
  try clear hcz21_0
  try clear hcz21_1
  try clear hcz22_0
  try clear hcz22_1
  try clear hfz12_0
  try clear hfz12_1
  try clear hfz14_0
  try clear hfz14_1
  try clear hfz16_0
  try clear hfz16_1
  try clear hfz18_0
  try clear hfz18_1
  try clear hfz19_0
  try clear hfz19_1
  try clear hfz21_0
  try clear hfz21_1
  try clear hfz22_0
  try clear hfz22_1
  obtain ⟨kq, x27_3, rfl, HA, HJ3, BK333, HB⟩ := hcut
  cases kq with
  | zero => exact absurd HA.out (by simp [impl_EdgeValue.j0])
  | succ kj3 =>
   have H := HA.out
   clear HA
   simp only [impl_EdgeValue.j0] at H
   by_cases c24 : x27_3 = true
   ·subst c24
    have H1 : (some (-1)) = some r := by rw [if_pos rfl] at H; exact H
    clear H
    have H := H1
    clear H1
    obtain rfl := Option.some.inj H
    go_wp2
    go_ret
    exact ⟨by first | rfl | (simp [errW_none, errW_some] <;> rfl) | (simp [*, errW_none, errW_some] <;> rfl), by repeat (first | (with_reducible first | exact HB.out | apply Yf | apply Yg | apply Yh | refine Yi ?_ GE333.out) | exact HB.out)⟩
   ·replace c24 := Bool.eq_false_iff.mpr c24
    subst c24
    have H1 : ((impl_Circuit_values.f kj3 a0_0 l0_1 l1).bind fun t337 => ((impl_edgeOf.f t337 a2).bind fun t340 => (some t340))) = some r := by rw [if_neg (show ¬ (false = true) by decide)] at H; exact H
    clear H
    have H := H1
    clear H1
    replace H := Yk H
    obtain ⟨t337, A250, H⟩ := H
    replace H : ((impl_edgeOf.f t337 a2).bind fun t340 => (some t340)) = some r := H
    have A25 := Yj A250
    clear A250
    replace H := Yk H
    obtain ⟨t340, A260, H⟩ := H
    replace H : (some t340) = some r := H
    have A26 := Yj A260
    clear A260
    obtain rfl := Option.some.inj H
    have hcz27_0 : wc.cell? ⟨gb333, 0, none⟩ = some (.int .i64 a0_0) := (Yd BK333.out 0).trans rfl
    have hcz27_1 : wc.cell? ⟨gb333, 1, none⟩ = some (.slice A0_1 l0_1.length c0_1) := (Yd BK333.out 1).trans rfl
    have hfz27_0 := Ye BK333.out 0
    have hfz27_1 := Ye BK333.out 1
    go_wp2_with (first | ((with_reducible refine gate_callee (f := 41) rfl ?_); refine goesL_ (some 30) rfl rfl Try.func41 (by kernel_rfl) rfl #[.agg #[.int .i64 a0_0, .slice A0_1 l0_1.length c0_1], .slice A1 l1.length c1] rfl (by (try simp only [List.map_toArray, List.map_cons, List.map_nil]); first | done | rfl | (simp only [List.length_drop, List.length_take]; rfl)) ?_; (with_reducible refine (impl_Circuit_values.calls kj3 a0_0 _ _ l0_1 _ _ l1 t337 _ ?side1 ?side2 ?side3 ?side4 A25.out).mono ?_); (case side1 => repeat (first | exact (Kd.C_below HR0_1.out HB.out) | (with_reducible refine Kd.C_alloc ?_ _) | (with_reducible refine Kd.C_drewN ?_ _) | (with_reducible refine Kd.C_drew ?_))); (case side2 => exact HC0_1.out); (case side3 => repeat (first | exact (Kd.C_below HR1.out HB.out) | (with_reducible refine Kd.C_alloc ?_ _) | (with_reducible refine Kd.C_drewN ?_ _) | (with_reducible refine Kd.C_drew ?_))); (case side4 => exact HC1.out); rintro e w28 ⟨v338, rfl, ho0, hb⟩; refine ⟨_, rfl, ?_⟩; have n0_ := Yj (Kd.R_lower ho0 (below_size (by repeat (first | (with_reducible first | exact HB.out | apply Yf | apply Yg | apply Yh | refine Yi ?_ GE333.out) | exact HB.out)))); have n1_ := Yj (blk_below (g := gb333) (o := .cells #[.int .i64 a0_0, .slice A0_1 l0_1.length c0_1] 36 (0, 0)) (by (with_reducible repeat (first | refine Ya ?_ _ | refine Yb ?_ | refine Yc ?_ _)); exact BK333.out) hb); have n2_ := Yj (below_step (by repeat (first | (with_reducible first | exact HB.out | apply Yf | apply Yg | apply Yh | refine Yi ?_ GE333.out) | exact HB.out)) hb); clear BK333; clear HB; have HO339 := n0_; have BK333 := n1_; have HB := n2_; clear n0_ n1_ n2_; (try clear hb); (try clear hb2); (try clear hk); (try clear hi); (try clear ho0); obtain ⟨Ao29, co29, eo29⟩ := Kd.R_slice HO339.out; subst eo29) | ((with_reducible refine gate_callee (f := 43) rfl ?_); refine goesL_ (some 32) rfl rfl Try.func43 (by kernel_rfl) rfl #[.slice Ao29 t337.length co29, .int .i64 a2] rfl (by (try simp only [List.map_toArray, List.map_cons, List.map_nil]); first | done | rfl | (simp only [List.length_drop, List.length_take]; rfl)) ?_; (with_reducible refine (impl_edgeOf.calls _ _ t337 a2 t340 _ ?side1 ?side2 A26.out).mono ?_); (case side1 => repeat (first | exact (Kd.R_reads' HO339.out).2.2 | (with_reducible refine Kd.C_alloc ?_ _) | (with_reducible refine Kd.C_drewN ?_ _) | (with_reducible refine Kd.C_drew ?_))); (case side2 => exact (Kd.R_reads' HO339.out).2.1); rintro e w' ⟨rfl, ⟨nd, rfl⟩⟩; refine ⟨_, rfl, ?_⟩))
    go_ret
    exact ⟨by first | rfl | (simp [errW_none, errW_some] <;> rfl) | (simp [*, errW_none, errW_some] <;> rfl), by repeat (first | (with_reducible first | exact HB.out | apply Yf | apply Yg | apply Yh | refine Yi ?_ GE333.out) | exact HB.out)⟩

end Go.Proofs.Ythphgkhmeobadab.XFnSameEdges
