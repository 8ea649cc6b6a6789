/- Printed by a program of this session out of the translation: the Go functions that a law uses as plain Lean functions, with the proofs of their calls, or the law's row.
Conditions: those that each theorem states. -/
import Derived.Test.YthcegdgffdppgaaXFnExactDiagramUsesx0
import Derived.Test.YthcegdgffdppgaaXFnExactDiagramUsesx7
import Derived.Test.YthcegdgffdppgaaXFnExactDiagramUsesx8
namespace Go.Proofs.Ythcegdgffdppgaa.XFnExactDiagramUses
open Go.RowKit Go.Proofs.YthcegdgffdppgaaW.PrintWords Go.Proofs.YthcegdgffdppgaaW.PrintLast Go.Proofs.YthcegdgffdppgaaW.PrintMore
attribute [local go_sem] max2_int min2_int max_two min_two max_three min_three max_four min_four   -- for this text's walks alone
set_option linter.unusedVariables false
set_option linter.unusedSimpArgs false

/-! ### impl_DiagramUses: function 28 -/
mutual
def impl_DiagramUses.j0 : Nat → Int → Bool → Int → List (S45) → Option (List Int)
 | 0, _, _, _, _ => none
 | k + 1, x1, x16, x201000, x201001 => if x16 = true then (some ([] : List Int)) else (if 0 ≤ x201000 then (if (x201000 : Int).toNat ≤ 281474976710656 then ((impl_Diagram_needs.f k x201000 x201001 x1).bind fun t206 => (if 2 ≤ (t206.length : Int) then ((some (t206.drop 2 : List Bool)).bind fun y209 => (impl_DiagramUses.l0 k (List.replicate (x201000 : Int).toNat false) y209 (y209.length : Int) 0 x201000 x201001)) else (none))) else (none)) else (none))
def impl_DiagramUses.l0 : Nat → List Bool → List Bool → Int → Int → Int → List (S45) → Option (List Int)
 | 0, _, _, _, _, _, _ => none
 | k + 1, x5, x23, x24, x25, x201000, x201001 => if x25 < x24 then (if 0 ≤ x25 then (if x25 < (x23.length : Int) then (if rdOf false x23 x25 = true then (if x25 < (x201001.length : Int) then (if 0 ≤ ((rd_T45 x201001 x25).f0) then (if ((rd_T45 x201001 x25).f0) < (x5.length : Int) then (impl_DiagramUses.l0 k (x5.set (((rd_T45 x201001 x25).f0) : Int).toNat true) x23 x24 (wrap64 (x25 + 1)) x201000 x201001) else (none)) else (none)) else (none)) else (impl_DiagramUses.l0 k x5 x23 x24 (wrap64 (x25 + 1)) x201000 x201001)) else (none)) else (none)) else ((impl_listOf.f k x5).bind fun t216 => (some t216))
end
def impl_DiagramUses.f (k : Nat) (a0_0 : Int) (l0_1 : List (S45)) (a1 : Int) : Option (List Int) := (impl_DiagramValid.f a0_0 l0_1).bind fun t201 => (if t201 = true then ((impl_Diagram_isPlace.f a0_0 l0_1 a1).bind fun t202 => (impl_DiagramUses.j0 k a1 (!t202) a0_0 l0_1)) else (impl_DiagramUses.j0 k a1 true a0_0 l0_1))
theorem impl_DiagramUses.mono_l : ∀ k, (∀ y0 y1 y2 y3, LeO (impl_DiagramUses.j0 k y0 y1 y2 y3) (impl_DiagramUses.j0 (k + 1) y0 y1 y2 y3)) ∧ (∀ y0 y1 y2 y3 y4 y5, LeO (impl_DiagramUses.l0 k y0 y1 y2 y3 y4 y5) (impl_DiagramUses.l0 (k + 1) y0 y1 y2 y3 y4 y5))
 | 0 => ⟨fun _ _ _ _ r h => by simp [impl_DiagramUses.j0] at h, fun _ _ _ _ _ _ r h => by simp [impl_DiagramUses.l0] at h⟩
 | k + 1 => by
  obtain ⟨ih0, ih1⟩ := impl_DiagramUses.mono_l k
  refine ⟨?_, ?_⟩
  ·intro y0 y1 y2 y3
   unfold impl_DiagramUses.j0
   repeat' first
   | (with_reducible exact ih0 _ _ _ _)
   | (with_reducible exact ih1 _ _ _ _ _ _)
   | (with_reducible exact impl_Diagram_needs.mono _ _ _ _)
   | (with_reducible exact impl_listOf.mono _ _)
   | (with_reducible exact LeO.refl _)
   | (with_reducible exact LeO.none _)
   | (with_reducible refine LeO.ite ?_ ?_)
   | (with_reducible refine LeO.bind ?_ (fun _ => ?_))
   | exact ih0 _ _ _ _
   | exact ih1 _ _ _ _ _ _
   | exact impl_Diagram_needs.mono _ _ _ _
   | exact impl_listOf.mono _ _
   | exact LeO.none _
   | refine LeO.ite ?_ ?_
   | refine LeO.bind ?_ (fun _ => ?_)
  ·intro y0 y1 y2 y3 y4 y5
   unfold impl_DiagramUses.l0
   repeat' first
   | (with_reducible exact ih0 _ _ _ _)
   | (with_reducible exact ih1 _ _ _ _ _ _)
   | (with_reducible exact impl_Diagram_needs.mono _ _ _ _)
   | (with_reducible exact impl_listOf.mono _ _)
   | (with_reducible exact LeO.refl _)
   | (with_reducible exact LeO.none _)
   | (with_reducible refine LeO.ite ?_ ?_)
   | (with_reducible refine LeO.bind ?_ (fun _ => ?_))
   | exact ih0 _ _ _ _
   | exact ih1 _ _ _ _ _ _
   | exact impl_Diagram_needs.mono _ _ _ _
   | exact impl_listOf.mono _ _
   | exact LeO.none _
   | refine LeO.ite ?_ ?_
   | refine LeO.bind ?_ (fun _ => ?_)
theorem impl_DiagramUses.mono : ∀ a0 a1 a2 k, LeO (impl_DiagramUses.f k a0 a1 a2) (impl_DiagramUses.f (k + 1) a0 a1 a2) := by
 intro a0 a1 a2 k
 obtain ⟨ih0, ih1⟩ := impl_DiagramUses.mono_l k
 unfold impl_DiagramUses.f
 repeat' first
   | (with_reducible exact ih0 _ _ _ _)
   | (with_reducible exact ih1 _ _ _ _ _ _)
   | (with_reducible exact impl_Diagram_needs.mono _ _ _ _)
   | (with_reducible exact impl_listOf.mono _ _)
   | (with_reducible exact LeO.refl _)
   | (with_reducible exact LeO.none _)
   | (with_reducible refine LeO.ite ?_ ?_)
   | (with_reducible refine LeO.bind ?_ (fun _ => ?_))
   | exact ih0 _ _ _ _
   | exact ih1 _ _ _ _ _ _
   | exact impl_Diagram_needs.mono _ _ _ _
   | exact impl_listOf.mono _ _
   | exact LeO.none _
   | refine LeO.ite ?_ ?_
   | refine LeO.bind ?_ (fun _ => ?_)
set_option maxHeartbeats 8000000 in
set_option maxRecDepth 100000 in
theorem impl_DiagramUses.calls (k : Nat) (a0_0 : Int) (A0_1 : Option Addr) (c0_1 : Nat) (l0_1 : List (S45)) (a1 : Int) (r : List Int) (w : World) (hr0_1 : Kd.C k45 w A0_1 l0_1.length l0_1) (hc0_1 : l0_1.length ≤ c0_1) (h : impl_DiagramUses.f k a0_0 l0_1 a1 = some r) :
  Calls Try.prog 28 #[.agg #[.int .i64 a0_0, .slice A0_1 l0_1.length c0_1], .int .i64 a1] w fun e w' => ∃ v0_ : Value, e = .returned (v0_) ∧ Kd.R (Kd.int .i64) 3 w' w.heap.size (fun _ => True) v0_ r ∧ Below w.heap.size w w' := by
 have hu29 := Try.underlying29
 have HR0_1 := Aside0.mk hr0_1
 have HC0_1 := Aside0.mk hc0_1
 clear hr0_1 hc0_1
 have HB := Aside0.mk (Below.refl w.heap.size w)
 have H : ((impl_DiagramValid.f a0_0 l0_1).bind fun t201 => (if t201 = true then ((impl_Diagram_isPlace.f a0_0 l0_1 a1).bind fun t202 => (impl_DiagramUses.j0 k a1 (!t202) a0_0 l0_1)) else (impl_DiagramUses.j0 k a1 true a0_0 l0_1))) = some r := h
 clear h
 have HC3 := Aside0.mk H
 clear H
 go_enter Try.func28, Try.ntmps28
 go_upto_region 1 with (first | ((with_reducible refine gate_dst (N := 2) rfl ?_); refine box_event ?hg (N := 2) ?hd (cs := #[.int .i64 a0_0, .slice A0_1 l0_1.length c0_1]) (t := 29) ?hr ?_; (case hd => rfl); (case hg => rfl); (case hr => first | (go_simp; done) | (go_simp; rfl)); intro gb200 hg w4 hbox hb; have n0_ := Aside0.mk (below_step (by repeat (first | (with_reducible first | exact HB.out | apply below_alloc | apply pw_below_drewN | apply below_drew1) | exact HB.out)) hb); have n1_ := Aside0.mk (hbox); have n2_ := Aside0.mk ((by rw [hg]; exact (below_size (by repeat (first | (with_reducible first | exact HB.out | apply below_alloc | apply pw_below_drewN | apply below_drew1) | exact HB.out))) : w.heap.size ≤ gb200)); have n3_ := Aside0.mk ((by rw [hg]; exact (below_size (by repeat (first | (with_reducible first | exact HB.out | apply below_alloc | apply pw_below_drewN | apply below_drew1) | exact HB.out))) : w.heap.size ≤ gb200)); clear HB; have HB := n0_; have BK200 := n1_; have GW200 := n2_; have GE200 := n3_; clear n0_ n1_ n2_ n3_; clear hb hbox hg))
 (try simp only [Act.put, List.setIfInBounds_toArray, List.set_cons_zero, List.set_cons_succ])
 go_cut [16] (fun v16 wc => ∃ (kq : Nat) (x16_2 : Bool), v16 = .bool x16_2 ∧ Aside0 (impl_DiagramUses.j0 kq a1 x16_2 a0_0 l0_1 = some r) ∧ Aside0 (kq ≤ k) ∧ Aside0 (wc.heap[gb200]? = some (.cells #[.int .i64 a0_0, (.slice A0_1 l0_1.length c0_1)] 29 (0, 0))) ∧ Aside0 (Below w.heap.size w wc))
 case first =>
  have H := HC3.out
  clear HC3
  replace H := Option.bind_eq_some_iff.mp H
  obtain ⟨t201, A50, H⟩ := H
  replace H : (if t201 = true then ((impl_Diagram_isPlace.f a0_0 l0_1 a1).bind fun t202 => (impl_DiagramUses.j0 k a1 (!t202) a0_0 l0_1)) else (impl_DiagramUses.j0 k a1 true a0_0 l0_1)) = some r := H
  have A5 := Aside0.mk A50
  clear A50
  by_cases c6 : t201 = true
  ·subst c6
   have H1 : ((impl_Diagram_isPlace.f a0_0 l0_1 a1).bind fun t202 => (impl_DiagramUses.j0 k a1 (!t202) a0_0 l0_1)) = some r := by rw [if_pos rfl] at H; exact H
   clear H
   have H := H1
   clear H1
   replace H := Option.bind_eq_some_iff.mp H
   obtain ⟨t202, A70, H⟩ := H
   replace H : (impl_DiagramUses.j0 k a1 (!t202) a0_0 l0_1) = some r := H
   have A7 := Aside0.mk A70
   clear A70
   have H' := Aside0.mk H
   clear H
   have hcz8_0 : w4.cell? ⟨gb200, 0, none⟩ = some (.int .i64 a0_0) := (blk_cell BK200.out 0).trans rfl
   have hcz8_1 : w4.cell? ⟨gb200, 1, none⟩ = some (.slice A0_1 l0_1.length c0_1) := (blk_cell BK200.out 1).trans rfl
   have hfz8_0 := blk_frozen BK200.out 0
   have hfz8_1 := blk_frozen BK200.out 1
   go_wp2_with (first | ((with_reducible refine gate_callee (f := 12) rfl ?_); refine goesL_ (some 9) rfl rfl Try.func12 (by kernel_rfl) rfl #[.agg #[.int .i64 a0_0, .slice A0_1 l0_1.length c0_1]] rfl (by (try simp only [List.map_toArray, List.map_cons, List.map_nil]); first | done | rfl | (simp only [List.length_drop, List.length_take]; rfl)) ?_; (with_reducible refine (impl_DiagramValid.calls a0_0 _ _ l0_1 true _ ?side1 ?side2 A5.out).mono ?_); (case side1 => repeat (first | exact (Kd.C_below HR0_1.out HB.out) | (with_reducible refine Kd.C_alloc ?_ _) | (with_reducible refine Kd.C_drewN ?_ _) | (with_reducible refine Kd.C_drew ?_))); (case side2 => exact HC0_1.out); rintro e w9 ⟨rfl, hb⟩; refine ⟨_, rfl, ?_⟩; have n0_ := Aside0.mk (blk_below (g := gb200) (o := .cells #[.int .i64 a0_0, .slice A0_1 l0_1.length c0_1] 29 (0, 0)) (by (with_reducible repeat (first | refine blk_drewN ?_ _ | refine blk_drew ?_ | refine blk_alloc ?_ _)); exact BK200.out) hb); have n1_ := Aside0.mk (below_step (by repeat (first | (with_reducible first | exact HB.out | apply below_alloc | apply pw_below_drewN | apply below_drew1 | refine below_set ?_ GE200.out) | exact HB.out)) hb); clear BK200; clear HB; have BK200 := n0_; have HB := n1_; clear n0_ n1_; (try clear hb); (try clear hb2); (try clear hk); (try clear hi); have hcz10_0 : w9.cell? ⟨gb200, 0, none⟩ = some (.int .i64 a0_0) := (blk_cell BK200.out 0).trans rfl; have hcz10_1 : w9.cell? ⟨gb200, 1, none⟩ = some (.slice A0_1 l0_1.length c0_1) := (blk_cell BK200.out 1).trans rfl; have hfz10_0 := blk_frozen BK200.out 0; have hfz10_1 := blk_frozen BK200.out 1) | (go_at_call 38; (with_reducible refine (impl_Diagram_isPlace.calls a0_0 _ _ l0_1 a1 t202 _ ?side1 ?side2 A7.out).mono ?_); (case side1 => repeat (first | exact (Kd.C_below HR0_1.out HB.out) | (with_reducible refine Kd.C_alloc ?_ _) | (with_reducible refine Kd.C_drewN ?_ _) | (with_reducible refine Kd.C_drew ?_))); (case side2 => exact HC0_1.out); rintro e w11 ⟨rfl, hb⟩; have n0_ := Aside0.mk (blk_below (g := gb200) (o := .cells #[.int .i64 a0_0, .slice A0_1 l0_1.length c0_1] 29 (0, 0)) (by (with_reducible repeat (first | refine blk_drewN ?_ _ | refine blk_drew ?_ | refine blk_alloc ?_ _)); exact BK200.out) hb); have n1_ := Aside0.mk (below_step (by repeat (first | (with_reducible first | exact HB.out | apply below_alloc | apply pw_below_drewN | apply below_drew1 | refine below_set ?_ GE200.out) | exact HB.out)) hb); clear BK200; clear HB; have BK200 := n0_; have HB := n1_; clear n0_ n1_; (try clear hb); (try clear hb2); (try clear hk); (try clear hi)))
   go_meet
   case rel => exact ⟨_, (!t202), (by first | rfl | (simp; done) | (simp [*]; done)), H', ⟨by first | omega | exact Nat.le_refl _⟩, ⟨by (with_reducible repeat (first | refine blk_drewN ?_ _ | refine blk_drew ?_ | refine blk_alloc ?_ _)); exact BK200.out⟩, ⟨by repeat (first | (with_reducible first | exact HB.out | apply below_alloc | apply pw_below_drewN | apply below_drew1 | refine below_set ?_ GE200.out) | exact HB.out)⟩⟩
  ·replace c6 := Bool.eq_false_iff.mpr c6
   subst c6
   have H1 : (impl_DiagramUses.j0 k a1 true a0_0 l0_1) = some r := by rw [if_neg (show ¬ (false = true) by decide)] at H; exact H
   clear H
   have H := H1
   clear H1
   have H' := Aside0.mk H
   clear H
   have hcz12_0 : w4.cell? ⟨gb200, 0, none⟩ = some (.int .i64 a0_0) := (blk_cell BK200.out 0).trans rfl
   have hcz12_1 : w4.cell? ⟨gb200, 1, none⟩ = some (.slice A0_1 l0_1.length c0_1) := (blk_cell BK200.out 1).trans rfl
   have hfz12_0 := blk_frozen BK200.out 0
   have hfz12_1 := blk_frozen BK200.out 1
   go_wp2_with (first | ((with_reducible refine gate_callee (f := 12) rfl ?_); refine goesL_ (some 9) rfl rfl Try.func12 (by kernel_rfl) rfl #[.agg #[.int .i64 a0_0, .slice A0_1 l0_1.length c0_1]] rfl (by (try simp only [List.map_toArray, List.map_cons, List.map_nil]); first | done | rfl | (simp only [List.length_drop, List.length_take]; rfl)) ?_; (with_reducible refine (impl_DiagramValid.calls a0_0 _ _ l0_1 false _ ?side1 ?side2 A5.out).mono ?_); (case side1 => repeat (first | exact (Kd.C_below HR0_1.out HB.out) | (with_reducible refine Kd.C_alloc ?_ _) | (with_reducible refine Kd.C_drewN ?_ _) | (with_reducible refine Kd.C_drew ?_))); (case side2 => exact HC0_1.out); rintro e w13 ⟨rfl, hb⟩; refine ⟨_, rfl, ?_⟩; have n0_ := Aside0.mk (blk_below (g := gb200) (o := .cells #[.int .i64 a0_0, .slice A0_1 l0_1.length c0_1] 29 (0, 0)) (by (with_reducible repeat (first | refine blk_drewN ?_ _ | refine blk_drew ?_ | refine blk_alloc ?_ _)); exact BK200.out) hb); have n1_ := Aside0.mk (below_step (by repeat (first | (with_reducible first | exact HB.out | apply below_alloc | apply pw_below_drewN | apply below_drew1 | refine below_set ?_ GE200.out) | exact HB.out)) hb); clear BK200; clear HB; have BK200 := n0_; have HB := n1_; clear n0_ n1_; (try clear hb); (try clear hb2); (try clear hk); (try clear hi)))
   go_meet
   case rel => exact ⟨_, (true), (by first | rfl | (simp; done) | (simp [*]; done)), H', ⟨by first | omega | exact Nat.le_refl _⟩, ⟨by (with_reducible repeat (first | refine blk_drewN ?_ _ | refine blk_drew ?_ | refine blk_alloc ?_ _)); exact BK200.out⟩, ⟨by repeat (first | (with_reducible first | exact HB.out | apply below_alloc | apply pw_below_drewN | apply below_drew1 | refine below_set ?_ GE200.out) | exact HB.out)⟩⟩
 case rest =>
  clear HC3
  try clear c1
  try clear c2
  try clear p2
  try clear c6
  try clear c12
  try clear hcz10_0
  try clear hcz10_1
  try clear hcz12_0
  try clear hcz12_1
  try clear hcz8_0
  try clear hcz8_1
  try clear hfz10_0
  try clear hfz10_1
  try clear hfz12_0
  try clear hfz12_1
  try clear hfz8_0
  try clear hfz8_1
  obtain ⟨kq, x16_2, rfl, HA, HJ2, BK200, HB⟩ := hcut
  cases kq with
  | zero => exact absurd HA.out (by simp [impl_DiagramUses.j0])
  | succ kj2 =>
   have H := HA.out
   clear HA
   simp only [impl_DiagramUses.j0] at H
   by_cases c14 : x16_2 = true
   ·subst c14
    have H1 : (some ([] : List Int)) = some r := by rw [if_pos rfl] at H; exact H
    clear H
    have H := H1
    clear H1
    obtain rfl := Option.some.inj H
    go_wp2
    go_ret
    exact ⟨_, by first | rfl | (simp [errW_none, errW_some] <;> rfl) | (simp [*, errW_none, errW_some] <;> rfl), by first | exact Kd.R_nil _ _ _ _ _ | exact Kd.N_nil _ _ _ _ _ | exact Kd.V_nil _ _ _ _ _ | exact Kd.Q_nil _ _ _ _ _ | exact Kd.S_nil _ _ _ _ _, by repeat (first | (with_reducible first | exact HB.out | apply below_alloc | apply pw_below_drewN | apply below_drew1 | refine below_set ?_ GE200.out) | exact HB.out)⟩
   ·replace c14 := Bool.eq_false_iff.mpr c14
    subst c14
    have H1 : (if 0 ≤ a0_0 then (if (a0_0 : Int).toNat ≤ 281474976710656 then ((impl_Diagram_needs.f kj2 a0_0 l0_1 a1).bind fun t206 => (if 2 ≤ (t206.length : Int) then ((some (t206.drop 2 : List Bool)).bind fun y209 => (impl_DiagramUses.l0 kj2 (List.replicate (a0_0 : Int).toNat false) y209 (y209.length : Int) 0 a0_0 l0_1)) else (none))) else (none)) else (none)) = some r := by rw [if_neg (show ¬ (false = true) by decide)] at H; exact H
    clear H
    have H := H1
    clear H1
    by_cases c15 : 0 ≤ a0_0
    ·rw [if_pos c15] at H
     have c15b0 := eq_true c15
     have c15b1 : decide (0 ≤ a0_0) = true := decide_eq_true c15
     clear c15
     by_cases c16 : (a0_0 : Int).toNat ≤ 281474976710656
     ·rw [if_pos c16] at H
      have c16b0 := eq_true c16
      have c16b1 : decide ((a0_0 : Int).toNat ≤ 281474976710656) = true := decide_eq_true c16
      clear c16
      obtain ⟨y203, hy203⟩ : ∃ y_ : List Bool, y_ = (List.replicate (a0_0 : Int).toNat false) := ⟨_, rfl⟩
      replace H : ((impl_Diagram_needs.f kj2 a0_0 l0_1 a1).bind fun t206 => (if 2 ≤ (t206.length : Int) then ((some (t206.drop 2 : List Bool)).bind fun y209 => (impl_DiagramUses.l0 kj2 y203 y209 (y209.length : Int) 0 a0_0 l0_1)) else (none))) = some r := by first | (rw [hy203]; with_reducible exact H) | (have H2_ := (Option.bind_some _ _).symm.trans H; rw [hy203]; with_reducible exact H2_) | (have H2_ := (Option.bind_some _ _).symm.trans H; with_reducible exact H2_) | with_reducible exact H | (rw [hy203]; exact H) | exact H
      have Ny203 := Aside0.mk hy203
      clear hy203
      replace H := Option.bind_eq_some_iff.mp H
      obtain ⟨t206, A170, H⟩ := H
      replace H : (if 2 ≤ (t206.length : Int) then ((some (t206.drop 2 : List Bool)).bind fun y209 => (impl_DiagramUses.l0 kj2 y203 y209 (y209.length : Int) 0 a0_0 l0_1)) else (none)) = some r := H
      have A17 := Aside0.mk A170
      clear A170
      by_cases c18 : 2 ≤ (t206.length : Int)
      ·rw [if_pos c18] at H
       have c18b0 := eq_true c18
       have c18b1 : decide (2 ≤ (t206.length : Int)) = true := decide_eq_true c18
       clear c18
       obtain ⟨y209, hy209⟩ : ∃ y_ : List Bool, y_ = (t206.drop 2) := ⟨_, rfl⟩
       replace H : (impl_DiagramUses.l0 kj2 y203 y209 (y209.length : Int) 0 a0_0 l0_1) = some r := by first | (rw [hy209]; with_reducible exact H) | (have H2_ := (Option.bind_some _ _).symm.trans H; rw [hy209]; with_reducible exact H2_) | (have H2_ := (Option.bind_some _ _).symm.trans H; with_reducible exact H2_) | with_reducible exact H | (rw [hy209]; exact H) | exact H
       have Ny209 := Aside0.mk hy209
       clear hy209
       have H' := Aside0.mk H
       clear H
       have hcz19_0 : wc.cell? ⟨gb200, 0, none⟩ = some (.int .i64 a0_0) := (blk_cell BK200.out 0).trans rfl
       have hcz19_1 : wc.cell? ⟨gb200, 1, none⟩ = some (.slice A0_1 l0_1.length c0_1) := (blk_cell BK200.out 1).trans rfl
       have hfz19_0 := blk_frozen BK200.out 0
       have hfz19_1 := blk_frozen BK200.out 1
       go_wp2_with (first | ((with_reducible refine gate_dst (N := 19) rfl ?_); refine Kd.R_make Kd.bool _ 4 rfl (N := 19) rfl 58 _ _ rfl a0_0 rfl rfl Try.underlying58 (.bool false) 1 info4 rfl (by decide) (by omega) false (ok := fun _ => True) (okp := fun _ => True) rfl (fun _ hk => hk) trivial (of_decide_eq_true (by first | (with_reducible assumption) | assumption)) (Nat.le_trans (Nat.mul_le_mul_right _ (of_decide_eq_true (by first | (with_reducible assumption) | assumption) : a0_0.toNat ≤ 281474976710656)) (by omega)) (Below.refl _ _) (Nat.le_refl _) ?_; intro v204 w20 ho21 hb hg_ hnew_; clear hg_ hnew_; (first | rw [← Ny203.out] at ho21 | (simp only [Int.reduceToNat] at ho21; rw [← Ny203.out] at ho21)); have n0_ := Aside0.mk (Kd.R_lower ho21 (below_size (by repeat (first | (with_reducible first | exact HB.out | apply below_alloc | apply pw_below_drewN | apply below_drew1 | refine below_set ?_ GE200.out) | exact HB.out)))); have n1_ := Aside0.mk (blk_below (g := gb200) (o := .cells #[.int .i64 a0_0, .slice A0_1 l0_1.length c0_1] 29 (0, 0)) (by (with_reducible repeat (first | refine blk_drewN ?_ _ | refine blk_drew ?_ | refine blk_alloc ?_ _)); exact BK200.out) hb); have n2_ := Aside0.mk (below_step (by repeat (first | (with_reducible first | exact HB.out | apply below_alloc | apply pw_below_drewN | apply below_drew1 | refine below_set ?_ GE200.out) | exact HB.out)) hb); clear BK200; clear HB; have HO205 := n0_; have BK200 := n1_; have HB := n2_; clear n0_ n1_ n2_; clear hb ho21; have hcz22_0 : w20.cell? ⟨gb200, 0, none⟩ = some (.int .i64 a0_0) := (blk_cell BK200.out 0).trans rfl; have hcz22_1 : w20.cell? ⟨gb200, 1, none⟩ = some (.slice A0_1 l0_1.length c0_1) := (blk_cell BK200.out 1).trans rfl; have hfz22_0 := blk_frozen BK200.out 0; have hfz22_1 := blk_frozen BK200.out 1) | ((with_reducible refine gate_callee (f := 50) rfl ?_); refine goesL_ (some 22) rfl rfl Try.func50 (by kernel_rfl) rfl #[.agg #[.int .i64 a0_0, .slice A0_1 l0_1.length c0_1], .int .i64 a1] rfl (by (try simp only [List.map_toArray, List.map_cons, List.map_nil]); first | done | rfl | (simp only [List.length_drop, List.length_take]; rfl)) ?_; (with_reducible refine (impl_Diagram_needs.calls kj2 a0_0 _ _ l0_1 a1 t206 _ ?side1 ?side2 A17.out).mono ?_); (case side1 => repeat (first | exact (Kd.C_below HR0_1.out HB.out) | (with_reducible refine Kd.C_alloc ?_ _) | (with_reducible refine Kd.C_drewN ?_ _) | (with_reducible refine Kd.C_drew ?_))); (case side2 => exact HC0_1.out); rintro e w23 ⟨v207, rfl, ho0, hb⟩; refine ⟨_, rfl, ?_⟩; have n0_ := Aside0.mk (Kd.R_elder' (by (with_reducible repeat (first | apply Kd.R_alloc | apply Kd.R_drewN | apply Kd.R_drew)); exact HO205.out) (Kd.R_base ho0) hb); have n1_ := Aside0.mk (Kd.R_lower (Kd.R_new' ho0 (Kd.R_lt (by (with_reducible repeat (first | apply Kd.R_alloc | apply Kd.R_drewN | apply Kd.R_drew)); exact HO205.out))) (below_size (by repeat (first | (with_reducible first | exact HB.out | apply below_alloc | apply pw_below_drewN | apply below_drew1 | refine below_set ?_ GE200.out) | exact HB.out)))); have n2_ := Aside0.mk (blk_below (g := gb200) (o := .cells #[.int .i64 a0_0, .slice A0_1 l0_1.length c0_1] 29 (0, 0)) (by (with_reducible repeat (first | refine blk_drewN ?_ _ | refine blk_drew ?_ | refine blk_alloc ?_ _)); exact BK200.out) hb); have n3_ := Aside0.mk (below_step (by repeat (first | (with_reducible first | exact HB.out | apply below_alloc | apply pw_below_drewN | apply below_drew1 | refine below_set ?_ GE200.out) | exact HB.out)) hb); clear HO205; clear BK200; clear HB; have HO205 := n0_; have HO208 := n1_; have BK200 := n2_; have HB := n3_; clear n0_ n1_ n2_ n3_; (try clear hb); (try clear hb2); (try clear hk); (try clear hi); (try clear ho0); obtain ⟨Ao25, co25, eo25⟩ := Kd.R_slice HO208.out; subst eo25; have q24 : (2 : Int) ≤ ((t206.length : Int) : Int) := of_decide_eq_true (by first | (with_reducible assumption) | assumption); obtain ⟨i024, hi024, _, hsz24, _⟩ := info_parts info4; have hroom24 : t206.length ≤ co25 := (Kd.R_reads' HO208.out).2.1; have hC24 : Kd.C Kd.bool _ Ao25 t206.length t206 := (Kd.R_reads' HO208.out).2.2; have hcut24 := cut_from (P := Try.prog) 58 4 .i64 Try.underlying58 hi024 1 hsz24 Ao25 t206.length co25 2 (by omega) q24; have hr24 := Kd.C_drop (m := (2 : Int).toNat) (c := co25) hC24 (by omega) hroom24; obtain ⟨A24, hA24⟩ : ∃ A1, A1 = (if co25 = (2 : Int).toNat then Ao25 else (Ao25 : Option Addr).map (·.add ((2 : Int).toNat * 1))) := ⟨_, rfl⟩; obtain ⟨c24, hc24⟩ : ∃ c1, c1 = co25 - (2 : Int).toNat := ⟨_, rfl⟩; have hy24 : y209.length = t206.length - (2 : Int).toNat := (by rw [Ny209.out, List.length_drop] <;> omega); rw [show (t206).drop (2 : Int).toNat = y209 from Ny209.out.symm] at hr24; replace hr24 : Kd.C Kd.bool _ A24 y209.length y209 := (by rw [hA24]; exact hr24); rw [← hy24, ← hA24, ← hc24] at hcut24; have HR212 := Aside0.mk hr24; have HC212 := Aside0.mk (show y209.length ≤ c24 from by rw [hy24, hc24]; exact Nat.sub_le_sub_right hroom24 _); clear hr24 hC24 hroom24 hi024 hsz24 hc24; have KY24 := Aside0.mk hy24; have KA24 := Aside0.mk hA24; clear hy24 hA24; have KL24 := Aside0.mk (show 2 ≤ t206.length from by omega); replace q24 := eq_true q24))
       go_loopg [25] kj2 (fun kq v25 w' => ∃ (x5_2 : List Bool) (x25_2 : Int), v25 = .int .i64 x25_2 ∧ Aside0 (impl_DiagramUses.l0 kq x5_2 y209 (y209.length : Int) x25_2 a0_0 l0_1 = some r) ∧ Aside0 (kq ≤ kj2) ∧ Aside0 (Kd.R Kd.bool 4 w' w.heap.size (fun k_ => some k_ ≠ (.slice Ao25 t206.length co25 : Value).ownBlock) v204 x5_2) ∧ Aside0 (Kd.R Kd.bool 4 w' w.heap.size (fun k_ => some k_ ≠ v204.ownBlock) (.slice Ao25 t206.length co25 : Value) t206) ∧ Aside0 (w'.heap[gb200]? = some (.cells #[.int .i64 a0_0, (.slice A0_1 l0_1.length c0_1)] 29 (0, 0))) ∧ Aside0 (Below w.heap.size w w'))
       case atStart => exact ⟨(y203), (0), (by first | rfl | (simp; done) | (simp [*]; done)), H', ⟨Nat.le_refl _⟩, ⟨by (with_reducible repeat (first | apply Kd.R_alloc | apply Kd.R_drewN | apply Kd.R_drew)); exact Kd.R_mono HO205.out (fun _ hk => hk.2)⟩, ⟨by (with_reducible repeat (first | apply Kd.R_alloc | apply Kd.R_drewN | apply Kd.R_drew)); exact Kd.R_mono HO208.out (fun _ hk => hk.2)⟩, ⟨by (with_reducible repeat (first | refine blk_drewN ?_ _ | refine blk_drew ?_ | refine blk_alloc ?_ _)); exact BK200.out⟩, ⟨by repeat (first | (with_reducible first | exact HB.out | apply below_alloc | apply pw_below_drewN | apply below_drew1 | refine below_set ?_ GE200.out) | exact HB.out)⟩⟩
       case round =>
        clear H'
        try clear c1
        try clear c2
        try clear p2
        try clear q2
        try clear c5
        try clear c6
        try clear c12
        try clear c14
        try clear c15
        try clear c15b0
        try clear c15b1
        try clear c16
        try clear c16b0
        try clear c16b1
        try clear c18
        try clear c18b0
        try clear c18b1
        try clear c24
        try clear q24
        try clear hcz10_0
        try clear hcz10_1
        try clear hcz12_0
        try clear hcz12_1
        try clear hcz19_0
        try clear hcz19_1
        try clear hcz22_0
        try clear hcz22_1
        try clear hcz8_0
        try clear hcz8_1
        try clear hfz10_0
        try clear hfz10_1
        try clear hfz12_0
        try clear hfz12_1
        try clear hfz19_0
        try clear hfz19_1
        try clear hfz22_0
        try clear hfz22_1
        try clear hfz8_0
        try clear hfz8_1
        try clear p2
        try clear q24
        obtain ⟨x5_2, x25_2, rfl, HA, HK2, HO_5, HOQ, BK200, HB⟩ := hrel
        have HR212b := Aside0.mk (show Kd.C Kd.bool _ A24 y209.length y209 from by
         have hr := Kd.C_drop (m := (2 : Int).toNat) (c := co25) (Kd.R_reads' HOQ.out).2.2 (by have := KL24.out; omega) (Kd.R_reads' HOQ.out).2.1
         rw [show (t206).drop (2 : Int).toNat = y209 from Ny209.out.symm] at hr
         rw [KA24.out]
         exact hr)
        clear HR212
        have HR212 := HR212b
        clear HR212b
        cases gk with
        | zero => exact absurd HA.out (by simp [impl_DiagramUses.l0])
        | succ k2 =>
         have H := HA.out
         clear HA
         simp only [impl_DiagramUses.l0] at H
         by_cases c26 : x25_2 < (y209.length : Int)
         ·rw [if_pos c26] at H
          have c26b0 : decide (x25_2 < (y209.length : Int)) = true := decide_eq_true c26
          clear c26
          by_cases c27 : 0 ≤ x25_2
          ·rw [if_pos c27] at H
           have c27b0 : decide (0 ≤ x25_2) = true := decide_eq_true c27
           clear c27
           by_cases c28 : x25_2 < (y209.length : Int)
           ·rw [if_pos c28] at H
            have c28b0 : decide (x25_2 < (y209.length : Int)) = true := decide_eq_true c28
            clear c28
            obtain ⟨bq29, hbq29⟩ : ∃ b_ : Bool, b_ = (rdOf false y209 x25_2) := ⟨_, rfl⟩
            replace H : (if bq29 = true then (if x25_2 < (l0_1.length : Int) then (if 0 ≤ ((rd_T45 l0_1 x25_2).f0) then (if ((rd_T45 l0_1 x25_2).f0) < (x5_2.length : Int) then (impl_DiagramUses.l0 k2 (x5_2.set (((rd_T45 l0_1 x25_2).f0) : Int).toNat true) y209 (y209.length : Int) (wrap64 (x25_2 + 1)) a0_0 l0_1) else (none)) else (none)) else (none)) else (impl_DiagramUses.l0 k2 x5_2 y209 (y209.length : Int) (wrap64 (x25_2 + 1)) a0_0 l0_1)) = some r := by rw [← hbq29] at H; exact H
            have Nbq29 := Aside0.mk hbq29
            clear hbq29
            by_cases c30 : bq29 = true
            ·subst c30
             have H1 : (if x25_2 < (l0_1.length : Int) then (if 0 ≤ ((rd_T45 l0_1 x25_2).f0) then (if ((rd_T45 l0_1 x25_2).f0) < (x5_2.length : Int) then (impl_DiagramUses.l0 k2 (x5_2.set (((rd_T45 l0_1 x25_2).f0) : Int).toNat true) y209 (y209.length : Int) (wrap64 (x25_2 + 1)) a0_0 l0_1) else (none)) else (none)) else (none)) = some r := by rw [if_pos rfl] at H; exact H
             clear H
             have H := H1
             clear H1
             by_cases c31 : x25_2 < (l0_1.length : Int)
             ·rw [if_pos c31] at H
              have c31b0 : decide (x25_2 < (l0_1.length : Int)) = true := decide_eq_true c31
              clear c31
              by_cases c32 : 0 ≤ ((rd_T45 l0_1 x25_2).f0)
              ·rw [if_pos c32] at H
               have c32b0 : decide (0 ≤ ((rd_T45 l0_1 x25_2).f0)) = true := decide_eq_true c32
               clear c32
               by_cases c33 : ((rd_T45 l0_1 x25_2).f0) < (x5_2.length : Int)
               ·rw [if_pos c33] at H
                have c33b0 : decide (((rd_T45 l0_1 x25_2).f0) < (x5_2.length : Int)) = true := decide_eq_true c33
                clear c33
                obtain ⟨y215, hy215⟩ : ∃ y_ : List Bool, y_ = (x5_2.set (((rd_T45 l0_1 x25_2).f0) : Int).toNat true) := ⟨_, rfl⟩
                replace H : (impl_DiagramUses.l0 k2 y215 y209 (y209.length : Int) (wrap64 (x25_2 + 1)) a0_0 l0_1) = some r := by first | (rw [hy215]; with_reducible exact H) | (have H2_ := (Option.bind_some _ _).symm.trans H; rw [hy215]; with_reducible exact H2_) | (have H2_ := (Option.bind_some _ _).symm.trans H; with_reducible exact H2_) | with_reducible exact H | (rw [hy215]; exact H) | exact H
                have Ny215 := Aside0.mk hy215
                clear hy215
                have H' := Aside0.mk H
                clear H
                have p213 : 0 ≤ (x25_2 : Int) := of_decide_eq_true (by first | (with_reducible assumption) | assumption)
                have q213 : x25_2 < (y209.length : Int) := of_decide_eq_true (by first | (with_reducible assumption) | assumption)
                obtain ⟨ad213, e213, hx213_0⟩ := Kd.at_bool HR212.out x25_2 p213 q213
                (try rw [← Nbq29.out] at hx213_0)
                cases e213
                try replace hx213_0 := (HB.out.cell (World.block_lt_of_cell? w _ hx213_0)).trans hx213_0
                replace p213 := eq_true p213
                replace q213 := eq_true q213
                have hcz35_0 : wr.cell? ⟨gb200, 0, none⟩ = some (.int .i64 a0_0) := (blk_cell BK200.out 0).trans rfl
                have hcz35_1 : wr.cell? ⟨gb200, 1, none⟩ = some (.slice A0_1 l0_1.length c0_1) := (blk_cell BK200.out 1).trans rfl
                have hfz35_0 := blk_frozen BK200.out 0
                have hfz35_1 := blk_frozen BK200.out 1
                have p214 : 0 ≤ (x25_2 : Int) := of_decide_eq_true (by first | (with_reducible assumption) | assumption)
                have q214 : x25_2 < (l0_1.length : Int) := of_decide_eq_true (by first | (with_reducible assumption) | assumption)
                obtain ⟨ad214, e214, hx214_0, hx214_1, hx214_2⟩ := at_T45 HR0_1.out x25_2 p214 q214
                cases e214
                try replace hx214_0 := (HB.out.cell (World.block_lt_of_cell? w _ hx214_0)).trans hx214_0
                replace hx214_1 := (HB.out.cell (World.block_lt_of_cell? w _ hx214_1)).trans hx214_1
                replace hx214_2 := (HB.out.cell (World.block_lt_of_cell? w _ hx214_2)).trans hx214_2
                replace p214 := eq_true p214
                replace q214 := eq_true q214
                have p34 : 0 ≤ (((rd_T45 l0_1 x25_2).f0) : Int) := of_decide_eq_true (by first | (with_reducible assumption) | assumption)
                have q34 : (((rd_T45 l0_1 x25_2).f0) : Int) < ((x5_2.length : Int) : Int) := of_decide_eq_true (by first | (with_reducible assumption) | assumption)
                obtain ⟨go34, co34, eo34, gb34, gl34, cl34, HG34⟩ := Kd.R_form HO_5.out (by omega)
                (first | cases eo34 | (injection eo34 with ea_ en_ ec_; (first | subst ea_ | (injection ea_ with ea_; subst ea_)); subst ec_; clear en_))
                have GB34 := Aside0.mk gb34
                have GG34 := Aside0.mk HG34
                clear gb34 gl34 HG34
                obtain ⟨hx34_0, hf34_0⟩ := Kd.R_celln false HO_5.out (((rd_T45 l0_1 x25_2).f0) : Int) p34 q34
                replace p34 := eq_true p34
                replace q34 := eq_true q34
                have HP36 := Kd.R_putg HO_5.out (((rd_T45 l0_1 x25_2).f0) : Int) true
                go_wp2_with (first | ((with_reducible refine gate_store (t := 4) (p := 38) rfl ?_); refine store_event (t := 4) (p := 38) (v := ?vo_w37) (w1 := (wr.setCell ⟨go34, (((rd_T45 l0_1 x25_2).f0) : Int).toNat, none⟩ (.bool true))) ?hg ?ho ?hn ?hr ?_; (case ho => rfl); (case hg => rfl); (case hn => rfl); (case hr => first | (go_simp; done) | (go_simp; rfl)); intro w37 hw; have hg : wr.grownBy w37 (some go34) := (by rw [hw]; exact HP36.2); have hp_ : Kd.R Kd.bool 4 w37 w.heap.size (fun k_ => some k_ ≠ (.slice Ao25 t206.length co25 : Value).ownBlock) (.slice (some ⟨go34, 0, none⟩) x5_2.length co34) y215 := (by rw [hw, Ny215.out]; exact HP36.1); have nq_ : Kd.R Kd.bool 4 w37 w.heap.size (fun k_ => some k_ ≠ (.slice (some ⟨go34, 0, none⟩) x5_2.length co34 : Value).ownBlock) (.slice Ao25 t206.length co25 : Value) t206 := (by rw [hw]; exact Kd.R_far (p := ⟨go34, _, none⟩) HOQ.out (fun k hk e => hk (by rw [e]; rfl)) _); clear HOQ; have HOQ := Aside0.mk nq_; clear nq_; clear HP36; have n0_ := Aside0.mk (hp_); have n1_ := Aside0.mk (blk_grown (g := gb200) (o := .cells #[.int .i64 a0_0, .slice (some ad214) l0_1.length c0_1] 29 (0, 0)) (by (with_reducible repeat (first | refine blk_drewN ?_ _ | refine blk_drew ?_ | refine blk_alloc ?_ _)); exact BK200.out) hg (Kd.R_ne HO_5.out BK200.out (by decide))); have n2_ := Aside0.mk ((by rw [hw]; exact below_set (HB.out) GB34.out : Below w.heap.size w w37)); clear HO_5; clear BK200; clear HB; have HO_5 := n0_; have BK200 := n1_; have HB := n2_; clear n0_ n1_ n2_; clear hg hw hp_))
                go_roundg k2
                case measure => have := HJ2.out; have := HK2.out; omega
                case rel => exact ⟨(y215), (wrap64 (x25_2 + 1)), (by first | rfl | (simp; done) | (simp [*]; done)), H', ⟨by have := HJ2.out; have := HK2.out; omega⟩, ⟨by (with_reducible repeat (first | apply Kd.R_alloc | apply Kd.R_drewN | apply Kd.R_drew)); exact HO_5.out⟩, ⟨by (with_reducible repeat (first | apply Kd.R_alloc | apply Kd.R_drewN | apply Kd.R_drew)); exact HOQ.out⟩, ⟨by (with_reducible repeat (first | refine blk_drewN ?_ _ | refine blk_drew ?_ | refine blk_alloc ?_ _)); exact BK200.out⟩, ⟨by repeat (first | (with_reducible first | exact HB.out | apply below_alloc | apply pw_below_drewN | apply below_drew1 | refine below_set ?_ GE200.out) | exact HB.out)⟩⟩
               ·rw [if_neg c33] at H
                exact absurd H (by simp)
              ·rw [if_neg c32] at H
               exact absurd H (by simp)
             ·rw [if_neg c31] at H
              exact absurd H (by simp)
            ·replace c30 := Bool.eq_false_iff.mpr c30
             subst c30
             have H1 : (impl_DiagramUses.l0 k2 x5_2 y209 (y209.length : Int) (wrap64 (x25_2 + 1)) a0_0 l0_1) = some r := by rw [if_neg (show ¬ (false = true) by decide)] at H; exact H
             clear H
             have H := H1
             clear H1
             have H' := Aside0.mk H
             clear H
             have p213 : 0 ≤ (x25_2 : Int) := of_decide_eq_true (by first | (with_reducible assumption) | assumption)
             have q213 : x25_2 < (y209.length : Int) := of_decide_eq_true (by first | (with_reducible assumption) | assumption)
             obtain ⟨ad213, e213, hx213_0⟩ := Kd.at_bool HR212.out x25_2 p213 q213
             (try rw [← Nbq29.out] at hx213_0)
             cases e213
             try replace hx213_0 := (HB.out.cell (World.block_lt_of_cell? w _ hx213_0)).trans hx213_0
             replace p213 := eq_true p213
             replace q213 := eq_true q213
             go_wp2
             go_roundg k2
             case measure => have := HJ2.out; have := HK2.out; omega
             case rel => exact ⟨(x5_2), (wrap64 (x25_2 + 1)), (by first | rfl | (simp; done) | (simp [*]; done)), H', ⟨by have := HJ2.out; have := HK2.out; omega⟩, ⟨by (with_reducible repeat (first | apply Kd.R_alloc | apply Kd.R_drewN | apply Kd.R_drew)); exact HO_5.out⟩, ⟨by (with_reducible repeat (first | apply Kd.R_alloc | apply Kd.R_drewN | apply Kd.R_drew)); exact HOQ.out⟩, ⟨by (with_reducible repeat (first | refine blk_drewN ?_ _ | refine blk_drew ?_ | refine blk_alloc ?_ _)); exact BK200.out⟩, ⟨by repeat (first | (with_reducible first | exact HB.out | apply below_alloc | apply pw_below_drewN | apply below_drew1 | refine below_set ?_ GE200.out) | exact HB.out)⟩⟩
           ·rw [if_neg c28] at H
            exact absurd H (by simp)
          ·rw [if_neg c27] at H
           exact absurd H (by simp)
         ·rw [if_neg c26] at H
          have c26b0 : decide (x25_2 < (y209.length : Int)) = false := decide_eq_false c26
          clear c26
          replace H := Option.bind_eq_some_iff.mp H
          obtain ⟨t216, A380, H⟩ := H
          replace H : (some t216) = some r := H
          have A38 := Aside0.mk A380
          clear A380
          obtain rfl := Option.some.inj H
          obtain ⟨Ao39, co39, eo39⟩ := Kd.R_slice HO_5.out
          subst eo39
          go_wp2_with (first | ((with_reducible refine gate_callee (f := 51) rfl ?_); refine goesL_ (some 41) rfl rfl Try.func51 (by kernel_rfl) rfl #[.slice Ao39 x5_2.length co39] rfl (by (try simp only [List.map_toArray, List.map_cons, List.map_nil]); first | done | rfl | (simp only [List.length_drop, List.length_take]; rfl)) ?_; (with_reducible refine (impl_listOf.calls k2 _ _ x5_2 t216 _ ?side1 ?side2 A38.out).mono ?_); (case side1 => repeat (first | exact (Kd.R_reads' HO_5.out).2.2 | (with_reducible refine Kd.C_alloc ?_ _) | (with_reducible refine Kd.C_drewN ?_ _) | (with_reducible refine Kd.C_drew ?_))); (case side2 => exact (Kd.R_reads' HO_5.out).2.1); rintro e w40 ⟨v217, rfl, ho0, hb⟩; refine ⟨_, rfl, ?_⟩; have n0_ := Aside0.mk (Kd.R_below (by (with_reducible repeat (first | apply Kd.R_alloc | apply Kd.R_drewN | apply Kd.R_drew)); exact HO_5.out) hb); have n1_ := Aside0.mk (Kd.R_lower ho0 (below_size (by repeat (first | (with_reducible first | exact HB.out | apply below_alloc | apply pw_below_drewN | apply below_drew1 | refine below_set ?_ GE200.out) | exact HB.out)))); have n2_ := Aside0.mk (blk_below (g := gb200) (o := .cells #[.int .i64 a0_0, .slice A0_1 l0_1.length c0_1] 29 (0, 0)) (by (with_reducible repeat (first | refine blk_drewN ?_ _ | refine blk_drew ?_ | refine blk_alloc ?_ _)); exact BK200.out) hb); have n3_ := Aside0.mk (below_step (by repeat (first | (with_reducible first | exact HB.out | apply below_alloc | apply pw_below_drewN | apply below_drew1 | refine below_set ?_ GE200.out) | exact HB.out)) hb); clear HO_5; clear BK200; clear HB; have HO_5 := n0_; have HO218 := n1_; have BK200 := n2_; have HB := n3_; clear n0_ n1_ n2_ n3_; (try clear hb); (try clear hb2); (try clear hk); (try clear hi); (try clear ho0)))
          go_ret
          exact ⟨_, by first | rfl | (simp [errW_none, errW_some] <;> rfl) | (simp [*, errW_none, errW_some] <;> rfl), by (with_reducible repeat (first | apply Kd.R_alloc | apply Kd.R_drewN | apply Kd.R_drew)); exact HO218.out, by repeat (first | (with_reducible first | exact HB.out | apply below_alloc | apply pw_below_drewN | apply below_drew1 | refine below_set ?_ GE200.out) | exact HB.out)⟩
      ·rw [if_neg c18] at H
       exact absurd H (by simp)
     ·rw [if_neg c16] at H
      exact absurd H (by simp)
    ·rw [if_neg c15] at H
     exact absurd H (by simp)

end Go.Proofs.Ythcegdgffdppgaa.XFnExactDiagramUses
