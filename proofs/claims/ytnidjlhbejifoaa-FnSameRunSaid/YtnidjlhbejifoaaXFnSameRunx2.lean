/- Printed by a program of this session out of the translation: the Go functions that a law uses as plain Lean functions, with the proofs of their calls, or the law's row.
Conditions: those that each theorem states. -/
import Derived.Test.YtnidjlhbejifoaaXFnSameRunx0
import Derived.Test.YtnidjlhbejifoaaXFnSameRunx1
namespace Go.Proofs.Ytnidjlhbejifoaa.XFnSameRun
open Go.RowKit Go.Proofs.YtnidjlhbejifoaaW.PrintWords Go.Proofs.YtnidjlhbejifoaaW.PrintLast Go.Proofs.YtnidjlhbejifoaaW.PrintMore
attribute [local go_sem] max2_int max_two
set_option linter.unusedVariables false
set_option linter.unusedSimpArgs false

/-! ### spec_l1Kind: function 47 -/
mutual
def spec_l1Kind.j0 : Nat → List Int → Int → Bool → Int → Int → Int → Int → Option (Int)
 | 0, _, _, _, _, _, _, _ => none
 | k + 1, x1, x2, x25, x137000, x137001, x137002, x137003 => if x25 = true then (some 1) else (if x137000 = 1 then ((spec_l1In.f x137001 0 (wrap64 (x2 - 1))).bind fun t138 => (if t138 = true then (if x137002 = 0 then (spec_l1Kind.j1 k x1 (x137003 == 0) x137000 x137001 x137002 x137003) else (spec_l1Kind.j1 k x1 false x137000 x137001 x137002 x137003)) else (spec_l1Kind.j1 k x1 false x137000 x137001 x137002 x137003))) else (spec_l1Kind.j1 k x1 false x137000 x137001 x137002 x137003))
def spec_l1Kind.j1 : Nat → List Int → Bool → Int → Int → Int → Int → Option (Int)
 | 0, _, _, _, _, _, _ => none
 | k + 1, x1, x45, x137000, x137001, x137002, x137003 => if x45 = true then (some 1) else ((spec_l1In.f x137000 2 9).bind fun t139 => (if t139 = true then (if x137001 = 0 then ((spec_l1In.f x137002 0 (wrap64 ((x1.length : Int) - 1))).bind fun t140 => (if t140 = true then ((spec_l1In.f x137003 0 (wrap64 ((x1.length : Int) - 1))).bind fun t141 => (spec_l1Kind.j2 k x1 (!t141) x137000 x137001 x137002 x137003)) else (spec_l1Kind.j2 k x1 true x137000 x137001 x137002 x137003))) else (spec_l1Kind.j2 k x1 true x137000 x137001 x137002 x137003)) else (spec_l1Kind.j2 k x1 true x137000 x137001 x137002 x137003)))
def spec_l1Kind.j2 : Nat → List Int → Bool → Int → Int → Int → Int → Option (Int)
 | 0, _, _, _, _, _, _ => none
 | k + 1, x1, x72, x137000, x137001, x137002, x137003 => if x72 = true then (some 0) else (if x137000 ≥ 7 then (spec_l1Kind.j3 k x1 2 x137000 x137001 x137002 x137003) else (spec_l1Kind.j3 k x1 1 x137000 x137001 x137002 x137003))
def spec_l1Kind.j3 : Nat → List Int → Int → Int → Int → Int → Int → Option (Int)
 | 0, _, _, _, _, _, _ => none
 | k + 1, x1, x7, x137000, x137001, x137002, x137003 => if 0 ≤ x137002 then (if x137002 < (x1.length : Int) then (if (rd x1 x137002) = x7 then (if 0 ≤ x137003 then (if x137003 < (x1.length : Int) then (if (rd x1 x137003) = x7 then ((spec_l1One.f x137000).bind fun t144 => (if t144 = true then (spec_l1Kind.j4 k (x137003 != x137002) x137000 x137001 x137002 x137003) else (spec_l1Kind.j4 k false x137000 x137001 x137002 x137003))) else (spec_l1Kind.j4 k true x137000 x137001 x137002 x137003)) else (none)) else (none)) else (spec_l1Kind.j4 k true x137000 x137001 x137002 x137003)) else (none)) else (none)
def spec_l1Kind.j4 : Nat → Bool → Int → Int → Int → Int → Option (Int)
 | 0, _, _, _, _, _ => none
 | k + 1, x103, x137000, x137001, x137002, x137003 => if x103 = true then (some 0) else (if x137000 ≥ 5 then (some 2) else (some 1))
end
def spec_l1Kind.f (k : Nat) (a0_0 : Int) (a0_1 : Int) (a0_2 : Int) (a0_3 : Int) (l1 : List Int) (a2 : Int) : Option (Int) := if a0_0 = 0 then ((spec_l1In.f a0_1 (-9999) 9999).bind fun t137 => (if t137 = true then (if a0_2 = 0 then (spec_l1Kind.j0 k l1 a2 (a0_3 == 0) a0_0 a0_1 a0_2 a0_3) else (spec_l1Kind.j0 k l1 a2 false a0_0 a0_1 a0_2 a0_3)) else (spec_l1Kind.j0 k l1 a2 false a0_0 a0_1 a0_2 a0_3))) else (spec_l1Kind.j0 k l1 a2 false a0_0 a0_1 a0_2 a0_3)
theorem spec_l1Kind.mono_l : ∀ k, (∀ y0 y1 y2 y3 y4 y5 y6, LeO (spec_l1Kind.j0 k y0 y1 y2 y3 y4 y5 y6) (spec_l1Kind.j0 (k + 1) y0 y1 y2 y3 y4 y5 y6)) ∧ (∀ y0 y1 y2 y3 y4 y5, LeO (spec_l1Kind.j1 k y0 y1 y2 y3 y4 y5) (spec_l1Kind.j1 (k + 1) y0 y1 y2 y3 y4 y5)) ∧ (∀ y0 y1 y2 y3 y4 y5, LeO (spec_l1Kind.j2 k y0 y1 y2 y3 y4 y5) (spec_l1Kind.j2 (k + 1) y0 y1 y2 y3 y4 y5)) ∧ (∀ y0 y1 y2 y3 y4 y5, LeO (spec_l1Kind.j3 k y0 y1 y2 y3 y4 y5) (spec_l1Kind.j3 (k + 1) y0 y1 y2 y3 y4 y5)) ∧ (∀ y0 y1 y2 y3 y4, LeO (spec_l1Kind.j4 k y0 y1 y2 y3 y4) (spec_l1Kind.j4 (k + 1) y0 y1 y2 y3 y4))
 | 0 => ⟨fun _ _ _ _ _ _ _ r h => by simp [spec_l1Kind.j0] at h, fun _ _ _ _ _ _ r h => by simp [spec_l1Kind.j1] at h, fun _ _ _ _ _ _ r h => by simp [spec_l1Kind.j2] at h, fun _ _ _ _ _ _ r h => by simp [spec_l1Kind.j3] at h, fun _ _ _ _ _ r h => by simp [spec_l1Kind.j4] at h⟩
 | k + 1 => by
  obtain ⟨ih0, ih1, ih2, ih3, ih4⟩ := spec_l1Kind.mono_l k
  refine ⟨?_, ?_, ?_, ?_, ?_⟩
  ·intro y0 y1 y2 y3 y4 y5 y6
   unfold spec_l1Kind.j0
   repeat' first
   | (with_reducible exact ih0 _ _ _ _ _ _ _)
   | (with_reducible exact ih1 _ _ _ _ _ _)
   | (with_reducible exact ih2 _ _ _ _ _ _)
   | (with_reducible exact ih3 _ _ _ _ _ _)
   | (with_reducible exact ih4 _ _ _ _ _)
   | (with_reducible exact LeO.refl _)
   | (with_reducible exact LeO.none _)
   | (with_reducible refine LeO.ite ?_ ?_)
   | (with_reducible refine LeO.bind ?_ (fun _ => ?_))
   | exact ih0 _ _ _ _ _ _ _
   | exact ih1 _ _ _ _ _ _
   | exact ih2 _ _ _ _ _ _
   | exact ih3 _ _ _ _ _ _
   | exact ih4 _ _ _ _ _
   | exact LeO.none _
   | refine LeO.ite ?_ ?_
   | refine LeO.bind ?_ (fun _ => ?_)
  ·intro y0 y1 y2 y3 y4 y5
   unfold spec_l1Kind.j1
   repeat' first
   | (with_reducible exact ih0 _ _ _ _ _ _ _)
   | (with_reducible exact ih1 _ _ _ _ _ _)
   | (with_reducible exact ih2 _ _ _ _ _ _)
   | (with_reducible exact ih3 _ _ _ _ _ _)
   | (with_reducible exact ih4 _ _ _ _ _)
   | (with_reducible exact LeO.refl _)
   | (with_reducible exact LeO.none _)
   | (with_reducible refine LeO.ite ?_ ?_)
   | (with_reducible refine LeO.bind ?_ (fun _ => ?_))
   | exact ih0 _ _ _ _ _ _ _
   | exact ih1 _ _ _ _ _ _
   | exact ih2 _ _ _ _ _ _
   | exact ih3 _ _ _ _ _ _
   | exact ih4 _ _ _ _ _
   | exact LeO.none _
   | refine LeO.ite ?_ ?_
   | refine LeO.bind ?_ (fun _ => ?_)
  ·intro y0 y1 y2 y3 y4 y5
   unfold spec_l1Kind.j2
   repeat' first
   | (with_reducible exact ih0 _ _ _ _ _ _ _)
   | (with_reducible exact ih1 _ _ _ _ _ _)
   | (with_reducible exact ih2 _ _ _ _ _ _)
   | (with_reducible exact ih3 _ _ _ _ _ _)
   | (with_reducible exact ih4 _ _ _ _ _)
   | (with_reducible exact LeO.refl _)
   | (with_reducible exact LeO.none _)
   | (with_reducible refine LeO.ite ?_ ?_)
   | (with_reducible refine LeO.bind ?_ (fun _ => ?_))
   | exact ih0 _ _ _ _ _ _ _
   | exact ih1 _ _ _ _ _ _
   | exact ih2 _ _ _ _ _ _
   | exact ih3 _ _ _ _ _ _
   | exact ih4 _ _ _ _ _
   | exact LeO.none _
   | refine LeO.ite ?_ ?_
   | refine LeO.bind ?_ (fun _ => ?_)
  ·intro y0 y1 y2 y3 y4 y5
   unfold spec_l1Kind.j3
   repeat' first
   | (with_reducible exact ih0 _ _ _ _ _ _ _)
   | (with_reducible exact ih1 _ _ _ _ _ _)
   | (with_reducible exact ih2 _ _ _ _ _ _)
   | (with_reducible exact ih3 _ _ _ _ _ _)
   | (with_reducible exact ih4 _ _ _ _ _)
   | (with_reducible exact LeO.refl _)
   | (with_reducible exact LeO.none _)
   | (with_reducible refine LeO.ite ?_ ?_)
   | (with_reducible refine LeO.bind ?_ (fun _ => ?_))
   | exact ih0 _ _ _ _ _ _ _
   | exact ih1 _ _ _ _ _ _
   | exact ih2 _ _ _ _ _ _
   | exact ih3 _ _ _ _ _ _
   | exact ih4 _ _ _ _ _
   | exact LeO.none _
   | refine LeO.ite ?_ ?_
   | refine LeO.bind ?_ (fun _ => ?_)
  ·intro y0 y1 y2 y3 y4
   unfold spec_l1Kind.j4
   repeat' first
   | (with_reducible exact ih0 _ _ _ _ _ _ _)
   | (with_reducible exact ih1 _ _ _ _ _ _)
   | (with_reducible exact ih2 _ _ _ _ _ _)
   | (with_reducible exact ih3 _ _ _ _ _ _)
   | (with_reducible exact ih4 _ _ _ _ _)
   | (with_reducible exact LeO.refl _)
   | (with_reducible exact LeO.none _)
   | (with_reducible refine LeO.ite ?_ ?_)
   | (with_reducible refine LeO.bind ?_ (fun _ => ?_))
   | exact ih0 _ _ _ _ _ _ _
   | exact ih1 _ _ _ _ _ _
   | exact ih2 _ _ _ _ _ _
   | exact ih3 _ _ _ _ _ _
   | exact ih4 _ _ _ _ _
   | exact LeO.none _
   | refine LeO.ite ?_ ?_
   | refine LeO.bind ?_ (fun _ => ?_)
theorem spec_l1Kind.mono : ∀ a0 a1 a2 a3 a4 a5 k, LeO (spec_l1Kind.f k a0 a1 a2 a3 a4 a5) (spec_l1Kind.f (k + 1) a0 a1 a2 a3 a4 a5) := by
 intro a0 a1 a2 a3 a4 a5 k
 obtain ⟨ih0, ih1, ih2, ih3, ih4⟩ := spec_l1Kind.mono_l k
 unfold spec_l1Kind.f
 repeat' first
   | (with_reducible exact ih0 _ _ _ _ _ _ _)
   | (with_reducible exact ih1 _ _ _ _ _ _)
   | (with_reducible exact ih2 _ _ _ _ _ _)
   | (with_reducible exact ih3 _ _ _ _ _ _)
   | (with_reducible exact ih4 _ _ _ _ _)
   | (with_reducible exact LeO.refl _)
   | (with_reducible exact LeO.none _)
   | (with_reducible refine LeO.ite ?_ ?_)
   | (with_reducible refine LeO.bind ?_ (fun _ => ?_))
   | exact ih0 _ _ _ _ _ _ _
   | exact ih1 _ _ _ _ _ _
   | exact ih2 _ _ _ _ _ _
   | exact ih3 _ _ _ _ _ _
   | exact ih4 _ _ _ _ _
   | exact LeO.none _
   | refine LeO.ite ?_ ?_
   | refine LeO.bind ?_ (fun _ => ?_)
set_option maxHeartbeats 8000000 in
set_option maxRecDepth 100000 in
theorem spec_l1Kind.calls (k : Nat) (a0_0 : Int) (a0_1 : Int) (a0_2 : Int) (a0_3 : Int) (A1 : Option Addr) (c1 : Nat) (l1 : List Int) (a2 : Int) (r : Int) (w : World) (hr1 : Kd.C (Kd.int .i64) w A1 l1.length l1) (hc1 : l1.length ≤ c1) (h : spec_l1Kind.f k a0_0 a0_1 a0_2 a0_3 l1 a2 = some r) :
  Calls Try.prog 47 #[.agg #[.int .i64 a0_0, .int .i64 a0_1, .int .i64 a0_2, .int .i64 a0_3], .slice A1 l1.length c1, .int .i64 a2] w fun e w' => e = .returned (.int .i64 r) ∧ Below w.heap.size w w' := by
 have hu54 := Try.underlying54
 have HR1 := Aside0.mk hr1
 have HC1 := Aside0.mk hc1
 clear hr1 hc1
 have HB := Aside0.mk (Below.refl w.heap.size w)
 have H : (if a0_0 = 0 then ((spec_l1In.f a0_1 (-9999) 9999).bind fun t137 => (if t137 = true then (if a0_2 = 0 then (spec_l1Kind.j0 k l1 a2 (a0_3 == 0) a0_0 a0_1 a0_2 a0_3) else (spec_l1Kind.j0 k l1 a2 false a0_0 a0_1 a0_2 a0_3)) else (spec_l1Kind.j0 k l1 a2 false a0_0 a0_1 a0_2 a0_3))) else (spec_l1Kind.j0 k l1 a2 false a0_0 a0_1 a0_2 a0_3)) = some r := h
 clear h
 have HC4 := Aside0.mk H
 clear H
 go_enter Try.func47, Try.ntmps47
 go_upto_region 1 with (first | ((with_reducible refine gate_dst (N := 3) rfl ?_); (try (refine gate_guard (by rfl) ?_; dsimp only)); refine box_event ?hg (N := 3) ?hd (cs := #[.int .i64 a0_0, .int .i64 a0_1, .int .i64 a0_2, .int .i64 a0_3]) (t := 54) ?hr ?_; (case hd => rfl); (case hg => rfl); (case hr => first | (go_simp; done) | (go_simp; rfl)); intro gb136 hg w5 hbox hb; have n0_ := Aside0.mk (below_step (by repeat (first | (with_reducible first | exact HB.out | apply below_alloc | apply pw_below_drewN | apply below_drew1) | exact HB.out)) hb); have n1_ := Aside0.mk (hbox); have n2_ := Aside0.mk ((by rw [hg]; exact (below_size (by repeat (first | (with_reducible first | exact HB.out | apply below_alloc | apply pw_below_drewN | apply below_drew1) | exact HB.out))) : w.heap.size ≤ gb136)); have n3_ := Aside0.mk ((by rw [hg]; exact (below_size (by repeat (first | (with_reducible first | exact HB.out | apply below_alloc | apply pw_below_drewN | apply below_drew1) | exact HB.out))) : w.heap.size ≤ gb136)); clear HB; have HB := n0_; have BK136 := n1_; have GW136 := n2_; have GE136 := n3_; clear n0_ n1_ n2_ n3_; clear hb hbox hg))
 (try simp only [Act.put, List.setIfInBounds_toArray, List.set_cons_zero, List.set_cons_succ])
 go_cut [25] (fun v25 wc => ∃ (kq : Nat) (x25_3 : Bool), v25 = .bool x25_3 ∧ Aside0 (spec_l1Kind.j0 kq l1 a2 x25_3 a0_0 a0_1 a0_2 a0_3 = some r) ∧ Aside0 (kq ≤ k) ∧ Aside0 (wc.heap[gb136]? = some (.cells #[.int .i64 a0_0, .int .i64 a0_1, .int .i64 a0_2, .int .i64 a0_3] 54 (0, 0))) ∧ Aside0 (Below w.heap.size w wc))
 case first =>
  have H := HC4.out
  clear HC4
  by_cases c6 : a0_0 = 0
  ·rw [if_pos c6] at H
   have c6b0 : (a0_0 == 0) = true := beq_iff_eq.mpr c6
   have c6b1 : (a0_0 != 0) = false := bne_eq_false_iff_eq.mpr c6
   clear c6
   (first | rw [c6b0] | (simp only [i64_w]; rw [c6b0]) | rw [c6b1] | simp only [c6b1] | skip)
   replace H := Option.bind_eq_some_iff.mp H
   obtain ⟨t137, A70, H⟩ := H
   replace H : (if t137 = true then (if a0_2 = 0 then (spec_l1Kind.j0 k l1 a2 (a0_3 == 0) a0_0 a0_1 a0_2 a0_3) else (spec_l1Kind.j0 k l1 a2 false a0_0 a0_1 a0_2 a0_3)) else (spec_l1Kind.j0 k l1 a2 false a0_0 a0_1 a0_2 a0_3)) = some r := H
   have A7 := Aside0.mk A70
   clear A70
   by_cases c8 : t137 = true
   ·subst c8
    have H1 : (if a0_2 = 0 then (spec_l1Kind.j0 k l1 a2 (a0_3 == 0) a0_0 a0_1 a0_2 a0_3) else (spec_l1Kind.j0 k l1 a2 false a0_0 a0_1 a0_2 a0_3)) = some r := by rw [if_pos rfl] at H; exact H
    clear H
    have H := H1
    clear H1
    by_cases c9 : a0_2 = 0
    ·rw [if_pos c9] at H
     have c9b0 : (a0_2 == 0) = true := beq_iff_eq.mpr c9
     have c9b1 : (a0_2 != 0) = false := bne_eq_false_iff_eq.mpr c9
     clear c9
     have H' := Aside0.mk H
     clear H
     have hcz10_0 : w5.cell? ⟨gb136, 0, none⟩ = some (.int .i64 a0_0) := (blk_cell BK136.out 0).trans rfl
     have hcz10_1 : w5.cell? ⟨gb136, 1, none⟩ = some (.int .i64 a0_1) := (blk_cell BK136.out 1).trans rfl
     have hcz10_2 : w5.cell? ⟨gb136, 2, none⟩ = some (.int .i64 a0_2) := (blk_cell BK136.out 2).trans rfl
     have hcz10_3 : w5.cell? ⟨gb136, 3, none⟩ = some (.int .i64 a0_3) := (blk_cell BK136.out 3).trans rfl
     have hfz10_0 := blk_frozen BK136.out 0
     have hfz10_1 := blk_frozen BK136.out 1
     have hfz10_2 := blk_frozen BK136.out 2
     have hfz10_3 := blk_frozen BK136.out 3
     go_wp2_with (first | (go_at_call 28; (with_reducible refine (spec_l1In.calls a0_1 (-9999) 9999 true _ A7.out).mono ?_); rintro e w' ⟨rfl, ⟨nd, rfl⟩⟩))
     go_meet
     case rel => exact ⟨_, ((a0_3 == 0)), (by first | rfl | (simp; done) | (simp [*]; done)), H', ⟨by first | omega | exact Nat.le_refl _⟩, ⟨by (with_reducible repeat (first | refine blk_drewN ?_ _ | refine blk_drew ?_ | refine blk_alloc ?_ _)); exact BK136.out⟩, ⟨by repeat (first | (with_reducible first | exact HB.out | apply below_alloc | apply pw_below_drewN | apply below_drew1 | refine below_set ?_ GE136.out) | exact HB.out)⟩⟩
    ·rw [if_neg c9] at H
     have c9b0 : (a0_2 == 0) = false := beq_eq_false_iff_ne.mpr c9
     have c9b1 : (a0_2 != 0) = true := bne_iff_ne.mpr c9
     have H' := Aside0.mk H
     clear H
     have hcz11_0 : w5.cell? ⟨gb136, 0, none⟩ = some (.int .i64 a0_0) := (blk_cell BK136.out 0).trans rfl
     have hcz11_1 : w5.cell? ⟨gb136, 1, none⟩ = some (.int .i64 a0_1) := (blk_cell BK136.out 1).trans rfl
     have hcz11_2 : w5.cell? ⟨gb136, 2, none⟩ = some (.int .i64 a0_2) := (blk_cell BK136.out 2).trans rfl
     have hcz11_3 : w5.cell? ⟨gb136, 3, none⟩ = some (.int .i64 a0_3) := (blk_cell BK136.out 3).trans rfl
     have hfz11_0 := blk_frozen BK136.out 0
     have hfz11_1 := blk_frozen BK136.out 1
     have hfz11_2 := blk_frozen BK136.out 2
     have hfz11_3 := blk_frozen BK136.out 3
     go_wp2_with (first | (go_at_call 28; (with_reducible refine (spec_l1In.calls a0_1 (-9999) 9999 true _ A7.out).mono ?_); rintro e w' ⟨rfl, ⟨nd, rfl⟩⟩))
     go_meet
     case rel => exact ⟨_, (false), (by first | rfl | (simp; done) | (simp [*]; done)), H', ⟨by first | omega | exact Nat.le_refl _⟩, ⟨by (with_reducible repeat (first | refine blk_drewN ?_ _ | refine blk_drew ?_ | refine blk_alloc ?_ _)); exact BK136.out⟩, ⟨by repeat (first | (with_reducible first | exact HB.out | apply below_alloc | apply pw_below_drewN | apply below_drew1 | refine below_set ?_ GE136.out) | exact HB.out)⟩⟩
   ·replace c8 := Bool.eq_false_iff.mpr c8
    subst c8
    have H1 : (spec_l1Kind.j0 k l1 a2 false a0_0 a0_1 a0_2 a0_3) = some r := by rw [if_neg (show ¬ (false = true) by decide)] at H; exact H
    clear H
    have H := H1
    clear H1
    have H' := Aside0.mk H
    clear H
    have hcz12_0 : w5.cell? ⟨gb136, 0, none⟩ = some (.int .i64 a0_0) := (blk_cell BK136.out 0).trans rfl
    have hcz12_1 : w5.cell? ⟨gb136, 1, none⟩ = some (.int .i64 a0_1) := (blk_cell BK136.out 1).trans rfl
    have hcz12_2 : w5.cell? ⟨gb136, 2, none⟩ = some (.int .i64 a0_2) := (blk_cell BK136.out 2).trans rfl
    have hcz12_3 : w5.cell? ⟨gb136, 3, none⟩ = some (.int .i64 a0_3) := (blk_cell BK136.out 3).trans rfl
    have hfz12_0 := blk_frozen BK136.out 0
    have hfz12_1 := blk_frozen BK136.out 1
    have hfz12_2 := blk_frozen BK136.out 2
    have hfz12_3 := blk_frozen BK136.out 3
    go_wp2_with (first | (go_at_call 28; (with_reducible refine (spec_l1In.calls a0_1 (-9999) 9999 false _ A7.out).mono ?_); rintro e w' ⟨rfl, ⟨nd, rfl⟩⟩))
    go_meet
    case rel => exact ⟨_, (false), (by first | rfl | (simp; done) | (simp [*]; done)), H', ⟨by first | omega | exact Nat.le_refl _⟩, ⟨by (with_reducible repeat (first | refine blk_drewN ?_ _ | refine blk_drew ?_ | refine blk_alloc ?_ _)); exact BK136.out⟩, ⟨by repeat (first | (with_reducible first | exact HB.out | apply below_alloc | apply pw_below_drewN | apply below_drew1 | refine below_set ?_ GE136.out) | exact HB.out)⟩⟩
  ·rw [if_neg c6] at H
   have c6b0 : (a0_0 == 0) = false := beq_eq_false_iff_ne.mpr c6
   have c6b1 : (a0_0 != 0) = true := bne_iff_ne.mpr c6
   (first | rw [c6b0] | (simp only [i64_w]; rw [c6b0]) | rw [c6b1] | simp only [c6b1] | skip)
   have H' := Aside0.mk H
   clear H
   have hcz13_0 : w5.cell? ⟨gb136, 0, none⟩ = some (.int .i64 a0_0) := (blk_cell BK136.out 0).trans rfl
   have hcz13_1 : w5.cell? ⟨gb136, 1, none⟩ = some (.int .i64 a0_1) := (blk_cell BK136.out 1).trans rfl
   have hcz13_2 : w5.cell? ⟨gb136, 2, none⟩ = some (.int .i64 a0_2) := (blk_cell BK136.out 2).trans rfl
   have hcz13_3 : w5.cell? ⟨gb136, 3, none⟩ = some (.int .i64 a0_3) := (blk_cell BK136.out 3).trans rfl
   have hfz13_0 := blk_frozen BK136.out 0
   have hfz13_1 := blk_frozen BK136.out 1
   have hfz13_2 := blk_frozen BK136.out 2
   have hfz13_3 := blk_frozen BK136.out 3
   go_wp2
   go_meet
   case rel => exact ⟨_, (false), (by first | rfl | (simp; done) | (simp [*]; done)), H', ⟨by first | omega | exact Nat.le_refl _⟩, ⟨by (with_reducible repeat (first | refine blk_drewN ?_ _ | refine blk_drew ?_ | refine blk_alloc ?_ _)); exact BK136.out⟩, ⟨by repeat (first | (with_reducible first | exact HB.out | apply below_alloc | apply pw_below_drewN | apply below_drew1 | refine below_set ?_ GE136.out) | exact HB.out)⟩⟩
 case rest =>
  clear HC4
  try clear c1
  try clear p2
  try clear c4
  try clear c6
  try clear c6b0
  try clear c6b1
  try clear c8
  try clear c9
  try clear c9b0
  try clear c9b1
  try clear hcz10_0
  try clear hcz10_1
  try clear hcz10_2
  try clear hcz10_3
  try clear hcz11_0
  try clear hcz11_1
  try clear hcz11_2
  try clear hcz11_3
  try clear hcz12_0
  try clear hcz12_1
  try clear hcz12_2
  try clear hcz12_3
  try clear hcz13_0
  try clear hcz13_1
  try clear hcz13_2
  try clear hcz13_3
  try clear hfz10_0
  try clear hfz10_1
  try clear hfz10_2
  try clear hfz10_3
  try clear hfz11_0
  try clear hfz11_1
  try clear hfz11_2
  try clear hfz11_3
  try clear hfz12_0
  try clear hfz12_1
  try clear hfz12_2
  try clear hfz12_3
  try clear hfz13_0
  try clear hfz13_1
  try clear hfz13_2
  try clear hfz13_3
  obtain ⟨kq, x25_3, rfl, HA, HJ3, BK136, HB⟩ := hcut
  cases kq with
  | zero => exact absurd HA.out (by simp [spec_l1Kind.j0])
  | succ kj3 =>
   have H := HA.out
   clear HA
   simp only [spec_l1Kind.j0] at H
   by_cases c14 : x25_3 = true
   ·subst c14
    have H1 : (some 1) = some r := by rw [if_pos rfl] at H; exact H
    clear H
    have H := H1
    clear H1
    obtain rfl := Option.some.inj H
    go_wp2
    go_ret
    exact ⟨by first | rfl | (simp [errW_none, errW_some] <;> rfl) | (simp [*, errW_none, errW_some] <;> rfl), by repeat (first | (with_reducible first | exact HB.out | apply below_alloc | apply pw_below_drewN | apply below_drew1 | refine below_set ?_ GE136.out) | exact HB.out)⟩
   ·replace c14 := Bool.eq_false_iff.mpr c14
    subst c14
    have H1 : (if a0_0 = 1 then ((spec_l1In.f a0_1 0 (wrap64 (a2 - 1))).bind fun t138 => (if t138 = true then (if a0_2 = 0 then (spec_l1Kind.j1 kj3 l1 (a0_3 == 0) a0_0 a0_1 a0_2 a0_3) else (spec_l1Kind.j1 kj3 l1 false a0_0 a0_1 a0_2 a0_3)) else (spec_l1Kind.j1 kj3 l1 false a0_0 a0_1 a0_2 a0_3))) else (spec_l1Kind.j1 kj3 l1 false a0_0 a0_1 a0_2 a0_3)) = some r := by rw [if_neg (show ¬ (false = true) by decide)] at H; exact H
    clear H
    have H := H1
    clear H1
    have HC15 := Aside0.mk H
    clear H
    go_upto_region 3 with (fail)
    go_cut [45] (fun v45 wc => ∃ (kq : Nat) (x45_14 : Bool), v45 = .bool x45_14 ∧ Aside0 (spec_l1Kind.j1 kq l1 x45_14 a0_0 a0_1 a0_2 a0_3 = some r) ∧ Aside0 (kq ≤ kj3) ∧ Aside0 (wc.heap[gb136]? = some (.cells #[.int .i64 a0_0, .int .i64 a0_1, .int .i64 a0_2, .int .i64 a0_3] 54 (0, 0))) ∧ Aside0 (Below w.heap.size w wc))
    case first =>
     have H := HC15.out
     clear HC15
     by_cases c16 : a0_0 = 1
     ·rw [if_pos c16] at H
      have c16b0 : (a0_0 == 1) = true := beq_iff_eq.mpr c16
      have c16b1 : (a0_0 != 1) = false := bne_eq_false_iff_eq.mpr c16
      clear c16
      (first | rw [c16b0] | (simp only [i64_w]; rw [c16b0]) | rw [c16b1] | simp only [c16b1] | skip)
      replace H := Option.bind_eq_some_iff.mp H
      obtain ⟨t138, A170, H⟩ := H
      replace H : (if t138 = true then (if a0_2 = 0 then (spec_l1Kind.j1 kj3 l1 (a0_3 == 0) a0_0 a0_1 a0_2 a0_3) else (spec_l1Kind.j1 kj3 l1 false a0_0 a0_1 a0_2 a0_3)) else (spec_l1Kind.j1 kj3 l1 false a0_0 a0_1 a0_2 a0_3)) = some r := H
      have A17 := Aside0.mk A170
      clear A170
      by_cases c18 : t138 = true
      ·subst c18
       have H1 : (if a0_2 = 0 then (spec_l1Kind.j1 kj3 l1 (a0_3 == 0) a0_0 a0_1 a0_2 a0_3) else (spec_l1Kind.j1 kj3 l1 false a0_0 a0_1 a0_2 a0_3)) = some r := by rw [if_pos rfl] at H; exact H
       clear H
       have H := H1
       clear H1
       by_cases c19 : a0_2 = 0
       ·rw [if_pos c19] at H
        have c19b0 : (a0_2 == 0) = true := beq_iff_eq.mpr c19
        have c19b1 : (a0_2 != 0) = false := bne_eq_false_iff_eq.mpr c19
        clear c19
        have H' := Aside0.mk H
        clear H
        have hcz20_0 : wc.cell? ⟨gb136, 0, none⟩ = some (.int .i64 a0_0) := (blk_cell BK136.out 0).trans rfl
        have hcz20_1 : wc.cell? ⟨gb136, 1, none⟩ = some (.int .i64 a0_1) := (blk_cell BK136.out 1).trans rfl
        have hcz20_2 : wc.cell? ⟨gb136, 2, none⟩ = some (.int .i64 a0_2) := (blk_cell BK136.out 2).trans rfl
        have hcz20_3 : wc.cell? ⟨gb136, 3, none⟩ = some (.int .i64 a0_3) := (blk_cell BK136.out 3).trans rfl
        have hfz20_0 := blk_frozen BK136.out 0
        have hfz20_1 := blk_frozen BK136.out 1
        have hfz20_2 := blk_frozen BK136.out 2
        have hfz20_3 := blk_frozen BK136.out 3
        go_wp2_with (first | (go_at_call 28; (with_reducible refine (spec_l1In.calls a0_1 0 (wrap64 (a2 - 1)) true _ A17.out).mono ?_); rintro e w' ⟨rfl, ⟨nd, rfl⟩⟩))
        go_meet
        case rel => exact ⟨_, ((a0_3 == 0)), (by first | rfl | (simp; done) | (simp [*]; done)), H', ⟨by have := HJ3.out; first | omega | exact Nat.le_refl _⟩, ⟨by (with_reducible repeat (first | refine blk_drewN ?_ _ | refine blk_drew ?_ | refine blk_alloc ?_ _)); exact BK136.out⟩, ⟨by repeat (first | (with_reducible first | exact HB.out | apply below_alloc | apply pw_below_drewN | apply below_drew1 | refine below_set ?_ GE136.out) | exact HB.out)⟩⟩
       ·rw [if_neg c19] at H
        have c19b0 : (a0_2 == 0) = false := beq_eq_false_iff_ne.mpr c19
        have c19b1 : (a0_2 != 0) = true := bne_iff_ne.mpr c19
        have H' := Aside0.mk H
        clear H
        have hcz21_0 : wc.cell? ⟨gb136, 0, none⟩ = some (.int .i64 a0_0) := (blk_cell BK136.out 0).trans rfl
        have hcz21_1 : wc.cell? ⟨gb136, 1, none⟩ = some (.int .i64 a0_1) := (blk_cell BK136.out 1).trans rfl
        have hcz21_2 : wc.cell? ⟨gb136, 2, none⟩ = some (.int .i64 a0_2) := (blk_cell BK136.out 2).trans rfl
        have hcz21_3 : wc.cell? ⟨gb136, 3, none⟩ = some (.int .i64 a0_3) := (blk_cell BK136.out 3).trans rfl
        have hfz21_0 := blk_frozen BK136.out 0
        have hfz21_1 := blk_frozen BK136.out 1
        have hfz21_2 := blk_frozen BK136.out 2
        have hfz21_3 := blk_frozen BK136.out 3
        go_wp2_with (first | (go_at_call 28; (with_reducible refine (spec_l1In.calls a0_1 0 (wrap64 (a2 - 1)) true _ A17.out).mono ?_); rintro e w' ⟨rfl, ⟨nd, rfl⟩⟩))
        go_meet
        case rel => exact ⟨_, (false), (by first | rfl | (simp; done) | (simp [*]; done)), H', ⟨by have := HJ3.out; first | omega | exact Nat.le_refl _⟩, ⟨by (with_reducible repeat (first | refine blk_drewN ?_ _ | refine blk_drew ?_ | refine blk_alloc ?_ _)); exact BK136.out⟩, ⟨by repeat (first | (with_reducible first | exact HB.out | apply below_alloc | apply pw_below_drewN | apply below_drew1 | refine below_set ?_ GE136.out) | exact HB.out)⟩⟩
      ·replace c18 := Bool.eq_false_iff.mpr c18
       subst c18
       have H1 : (spec_l1Kind.j1 kj3 l1 false a0_0 a0_1 a0_2 a0_3) = some r := by rw [if_neg (show ¬ (false = true) by decide)] at H; exact H
       clear H
       have H := H1
       clear H1
       have H' := Aside0.mk H
       clear H
       have hcz22_0 : wc.cell? ⟨gb136, 0, none⟩ = some (.int .i64 a0_0) := (blk_cell BK136.out 0).trans rfl
       have hcz22_1 : wc.cell? ⟨gb136, 1, none⟩ = some (.int .i64 a0_1) := (blk_cell BK136.out 1).trans rfl
       have hcz22_2 : wc.cell? ⟨gb136, 2, none⟩ = some (.int .i64 a0_2) := (blk_cell BK136.out 2).trans rfl
       have hcz22_3 : wc.cell? ⟨gb136, 3, none⟩ = some (.int .i64 a0_3) := (blk_cell BK136.out 3).trans rfl
       have hfz22_0 := blk_frozen BK136.out 0
       have hfz22_1 := blk_frozen BK136.out 1
       have hfz22_2 := blk_frozen BK136.out 2
       have hfz22_3 := blk_frozen BK136.out 3
       go_wp2_with (first | (go_at_call 28; (with_reducible refine (spec_l1In.calls a0_1 0 (wrap64 (a2 - 1)) false _ A17.out).mono ?_); rintro e w' ⟨rfl, ⟨nd, rfl⟩⟩))
       go_meet
       case rel => exact ⟨_, (false), (by first | rfl | (simp; done) | (simp [*]; done)), H', ⟨by have := HJ3.out; first | omega | exact Nat.le_refl _⟩, ⟨by (with_reducible repeat (first | refine blk_drewN ?_ _ | refine blk_drew ?_ | refine blk_alloc ?_ _)); exact BK136.out⟩, ⟨by repeat (first | (with_reducible first | exact HB.out | apply below_alloc | apply pw_below_drewN | apply below_drew1 | refine below_set ?_ GE136.out) | exact HB.out)⟩⟩
     ·rw [if_neg c16] at H
      have c16b0 : (a0_0 == 1) = false := beq_eq_false_iff_ne.mpr c16
      have c16b1 : (a0_0 != 1) = true := bne_iff_ne.mpr c16
      (first | rw [c16b0] | (simp only [i64_w]; rw [c16b0]) | rw [c16b1] | simp only [c16b1] | skip)
      have H' := Aside0.mk H
      clear H
      have hcz23_0 : wc.cell? ⟨gb136, 0, none⟩ = some (.int .i64 a0_0) := (blk_cell BK136.out 0).trans rfl
      have hcz23_1 : wc.cell? ⟨gb136, 1, none⟩ = some (.int .i64 a0_1) := (blk_cell BK136.out 1).trans rfl
      have hcz23_2 : wc.cell? ⟨gb136, 2, none⟩ = some (.int .i64 a0_2) := (blk_cell BK136.out 2).trans rfl
      have hcz23_3 : wc.cell? ⟨gb136, 3, none⟩ = some (.int .i64 a0_3) := (blk_cell BK136.out 3).trans rfl
      have hfz23_0 := blk_frozen BK136.out 0
      have hfz23_1 := blk_frozen BK136.out 1
      have hfz23_2 := blk_frozen BK136.out 2
      have hfz23_3 := blk_frozen BK136.out 3
      go_wp2
      go_meet
      case rel => exact ⟨_, (false), (by first | rfl | (simp; done) | (simp [*]; done)), H', ⟨by have := HJ3.out; first | omega | exact Nat.le_refl _⟩, ⟨by (with_reducible repeat (first | refine blk_drewN ?_ _ | refine blk_drew ?_ | refine blk_alloc ?_ _)); exact BK136.out⟩, ⟨by repeat (first | (with_reducible first | exact HB.out | apply below_alloc | apply pw_below_drewN | apply below_drew1 | refine below_set ?_ GE136.out) | exact HB.out)⟩⟩
    case rest =>
     clear HC15
     try clear c1
     try clear p2
     try clear c4
     try clear c6
     try clear c6b0
     try clear c6b1
     try clear p6
     try clear c8
     try clear c9
     try clear c9b0
     try clear c9b1
     try clear c14
     try clear c16
     try clear c16b0
     try clear c16b1
     try clear c18
     try clear c19
     try clear c19b0
     try clear c19b1
     try clear hcz10_0
     try clear hcz10_1
     try clear hcz10_2
     try clear hcz10_3
     try clear hcz11_0
     try clear hcz11_1
     try clear hcz11_2
     try clear hcz11_3
     try clear hcz12_0
     try clear hcz12_1
     try clear hcz12_2
     try clear hcz12_3
     try clear hcz13_0
     try clear hcz13_1
     try clear hcz13_2
     try clear hcz13_3
     try clear hcz20_0
     try clear hcz20_1
     try clear hcz20_2
     try clear hcz20_3
     try clear hcz21_0
     try clear hcz21_1
     try clear hcz21_2
     try clear hcz21_3
     try clear hcz22_0
     try clear hcz22_1
     try clear hcz22_2
     try clear hcz22_3
     try clear hcz23_0
     try clear hcz23_1
     try clear hcz23_2
     try clear hcz23_3
     try clear hfz10_0
     try clear hfz10_1
     try clear hfz10_2
     try clear hfz10_3
     try clear hfz11_0
     try clear hfz11_1
     try clear hfz11_2
     try clear hfz11_3
     try clear hfz12_0
     try clear hfz12_1
     try clear hfz12_2
     try clear hfz12_3
     try clear hfz13_0
     try clear hfz13_1
     try clear hfz13_2
     try clear hfz13_3
     try clear hfz20_0
     try clear hfz20_1
     try clear hfz20_2
     try clear hfz20_3
     try clear hfz21_0
     try clear hfz21_1
     try clear hfz21_2
     try clear hfz21_3
     try clear hfz22_0
     try clear hfz22_1
     try clear hfz22_2
     try clear hfz22_3
     try clear hfz23_0
     try clear hfz23_1
     try clear hfz23_2
     try clear hfz23_3
     try clear p2
     obtain ⟨kq, x45_14, rfl, HA, HJ14, BK136, HB⟩ := hcut
     cases kq with
     | zero => exact absurd HA.out (by simp [spec_l1Kind.j1])
     | succ kj14 =>
      have H := HA.out
      clear HA
      simp only [spec_l1Kind.j1] at H
      by_cases c24 : x45_14 = true
      ·subst c24
       have H1 : (some 1) = some r := by rw [if_pos rfl] at H; exact H
       clear H
       have H := H1
       clear H1
       obtain rfl := Option.some.inj H
       go_wp2
       go_ret
       exact ⟨by first | rfl | (simp [errW_none, errW_some] <;> rfl) | (simp [*, errW_none, errW_some] <;> rfl), by repeat (first | (with_reducible first | exact HB.out | apply below_alloc | apply pw_below_drewN | apply below_drew1 | refine below_set ?_ GE136.out) | exact HB.out)⟩
      ·replace c24 := Bool.eq_false_iff.mpr c24
       subst c24
       have H1 : ((spec_l1In.f a0_0 2 9).bind fun t139 => (if t139 = true then (if a0_1 = 0 then ((spec_l1In.f a0_2 0 (wrap64 ((l1.length : Int) - 1))).bind fun t140 => (if t140 = true then ((spec_l1In.f a0_3 0 (wrap64 ((l1.length : Int) - 1))).bind fun t141 => (spec_l1Kind.j2 kj14 l1 (!t141) a0_0 a0_1 a0_2 a0_3)) else (spec_l1Kind.j2 kj14 l1 true a0_0 a0_1 a0_2 a0_3))) else (spec_l1Kind.j2 kj14 l1 true a0_0 a0_1 a0_2 a0_3)) else (spec_l1Kind.j2 kj14 l1 true a0_0 a0_1 a0_2 a0_3))) = some r := by rw [if_neg (show ¬ (false = true) by decide)] at H; exact H
       clear H
       have H := H1
       clear H1
       have HC25 := Aside0.mk H
       clear H
       go_upto_region 5 with (fail)
       go_cut [72] (fun v72 wc => ∃ (kq : Nat) (x72_24 : Bool), v72 = .bool x72_24 ∧ Aside0 (spec_l1Kind.j2 kq l1 x72_24 a0_0 a0_1 a0_2 a0_3 = some r) ∧ Aside0 (kq ≤ kj14) ∧ Aside0 (wc.heap[gb136]? = some (.cells #[.int .i64 a0_0, .int .i64 a0_1, .int .i64 a0_2, .int .i64 a0_3] 54 (0, 0))) ∧ Aside0 (Below w.heap.size w wc))
       case first =>
        have H := HC25.out
        clear HC25
        replace H := Option.bind_eq_some_iff.mp H
        obtain ⟨t139, A260, H⟩ := H
        replace H : (if t139 = true then (if a0_1 = 0 then ((spec_l1In.f a0_2 0 (wrap64 ((l1.length : Int) - 1))).bind fun t140 => (if t140 = true then ((spec_l1In.f a0_3 0 (wrap64 ((l1.length : Int) - 1))).bind fun t141 => (spec_l1Kind.j2 kj14 l1 (!t141) a0_0 a0_1 a0_2 a0_3)) else (spec_l1Kind.j2 kj14 l1 true a0_0 a0_1 a0_2 a0_3))) else (spec_l1Kind.j2 kj14 l1 true a0_0 a0_1 a0_2 a0_3)) else (spec_l1Kind.j2 kj14 l1 true a0_0 a0_1 a0_2 a0_3)) = some r := H
        have A26 := Aside0.mk A260
        clear A260
        by_cases c27 : t139 = true
        ·subst c27
         have H1 : (if a0_1 = 0 then ((spec_l1In.f a0_2 0 (wrap64 ((l1.length : Int) - 1))).bind fun t140 => (if t140 = true then ((spec_l1In.f a0_3 0 (wrap64 ((l1.length : Int) - 1))).bind fun t141 => (spec_l1Kind.j2 kj14 l1 (!t141) a0_0 a0_1 a0_2 a0_3)) else (spec_l1Kind.j2 kj14 l1 true a0_0 a0_1 a0_2 a0_3))) else (spec_l1Kind.j2 kj14 l1 true a0_0 a0_1 a0_2 a0_3)) = some r := by rw [if_pos rfl] at H; exact H
         clear H
         have H := H1
         clear H1
         by_cases c28 : a0_1 = 0
         ·rw [if_pos c28] at H
          have c28b0 : (a0_1 == 0) = true := beq_iff_eq.mpr c28
          have c28b1 : (a0_1 != 0) = false := bne_eq_false_iff_eq.mpr c28
          clear c28
          (first | rw [c28b0] | (simp only [i64_w]; rw [c28b0]) | rw [c28b1] | simp only [c28b1] | skip)
          replace H := Option.bind_eq_some_iff.mp H
          obtain ⟨t140, A290, H⟩ := H
          replace H : (if t140 = true then ((spec_l1In.f a0_3 0 (wrap64 ((l1.length : Int) - 1))).bind fun t141 => (spec_l1Kind.j2 kj14 l1 (!t141) a0_0 a0_1 a0_2 a0_3)) else (spec_l1Kind.j2 kj14 l1 true a0_0 a0_1 a0_2 a0_3)) = some r := H
          have A29 := Aside0.mk A290
          clear A290
          by_cases c30 : t140 = true
          ·subst c30
           have H1 : ((spec_l1In.f a0_3 0 (wrap64 ((l1.length : Int) - 1))).bind fun t141 => (spec_l1Kind.j2 kj14 l1 (!t141) a0_0 a0_1 a0_2 a0_3)) = some r := by rw [if_pos rfl] at H; exact H
           clear H
           have H := H1
           clear H1
           replace H := Option.bind_eq_some_iff.mp H
           obtain ⟨t141, A310, H⟩ := H
           replace H : (spec_l1Kind.j2 kj14 l1 (!t141) a0_0 a0_1 a0_2 a0_3) = some r := H
           have A31 := Aside0.mk A310
           clear A310
           have H' := Aside0.mk H
           clear H
           have hcz32_0 : wc.cell? ⟨gb136, 0, none⟩ = some (.int .i64 a0_0) := (blk_cell BK136.out 0).trans rfl
           have hcz32_1 : wc.cell? ⟨gb136, 1, none⟩ = some (.int .i64 a0_1) := (blk_cell BK136.out 1).trans rfl
           have hcz32_2 : wc.cell? ⟨gb136, 2, none⟩ = some (.int .i64 a0_2) := (blk_cell BK136.out 2).trans rfl
           have hcz32_3 : wc.cell? ⟨gb136, 3, none⟩ = some (.int .i64 a0_3) := (blk_cell BK136.out 3).trans rfl
           have hfz32_0 := blk_frozen BK136.out 0
           have hfz32_1 := blk_frozen BK136.out 1
           have hfz32_2 := blk_frozen BK136.out 2
           have hfz32_3 := blk_frozen BK136.out 3
           go_wp2_with (first | ((with_reducible refine gate_callee (f := 28) rfl ?_); refine goesL_ (some 48) rfl rfl Try.func28 (by kernel_rfl) rfl #[.int .i64 a0_0, .int .i64 2, .int .i64 9] rfl (by (try simp only [List.map_toArray, List.map_cons, List.map_nil]); first | done | rfl | (simp only [List.length_drop, List.length_take]; rfl)) ?_; (with_reducible refine (spec_l1In.calls a0_0 2 9 true _ A26.out).mono ?_); rintro e w' ⟨rfl, ⟨nd, rfl⟩⟩; refine ⟨_, rfl, ?_⟩) | (go_at_call 28; (with_reducible refine (spec_l1In.calls a0_2 0 (wrap64 ((l1.length : Int) - 1)) true _ A29.out).mono ?_); rintro e w' ⟨rfl, ⟨nd, rfl⟩⟩) | (go_at_call 28; (with_reducible refine (spec_l1In.calls a0_3 0 (wrap64 ((l1.length : Int) - 1)) t141 _ A31.out).mono ?_); rintro e w' ⟨rfl, ⟨nd, rfl⟩⟩))
           go_meet
           case rel => exact ⟨_, (!t141), (by first | rfl | (simp; done) | (simp [*]; done)), H', ⟨by have := HJ3.out; have := HJ14.out; first | omega | exact Nat.le_refl _⟩, ⟨by (with_reducible repeat (first | refine blk_drewN ?_ _ | refine blk_drew ?_ | refine blk_alloc ?_ _)); exact BK136.out⟩, ⟨by repeat (first | (with_reducible first | exact HB.out | apply below_alloc | apply pw_below_drewN | apply below_drew1 | refine below_set ?_ GE136.out) | exact HB.out)⟩⟩
          ·replace c30 := Bool.eq_false_iff.mpr c30
           subst c30
           have H1 : (spec_l1Kind.j2 kj14 l1 true a0_0 a0_1 a0_2 a0_3) = some r := by rw [if_neg (show ¬ (false = true) by decide)] at H; exact H
           clear H
           have H := H1
           clear H1
           have H' := Aside0.mk H
           clear H
           have hcz33_0 : wc.cell? ⟨gb136, 0, none⟩ = some (.int .i64 a0_0) := (blk_cell BK136.out 0).trans rfl
           have hcz33_1 : wc.cell? ⟨gb136, 1, none⟩ = some (.int .i64 a0_1) := (blk_cell BK136.out 1).trans rfl
           have hcz33_2 : wc.cell? ⟨gb136, 2, none⟩ = some (.int .i64 a0_2) := (blk_cell BK136.out 2).trans rfl
           have hcz33_3 : wc.cell? ⟨gb136, 3, none⟩ = some (.int .i64 a0_3) := (blk_cell BK136.out 3).trans rfl
           have hfz33_0 := blk_frozen BK136.out 0
           have hfz33_1 := blk_frozen BK136.out 1
           have hfz33_2 := blk_frozen BK136.out 2
           have hfz33_3 := blk_frozen BK136.out 3
           go_wp2_with (first | ((with_reducible refine gate_callee (f := 28) rfl ?_); refine goesL_ (some 48) rfl rfl Try.func28 (by kernel_rfl) rfl #[.int .i64 a0_0, .int .i64 2, .int .i64 9] rfl (by (try simp only [List.map_toArray, List.map_cons, List.map_nil]); first | done | rfl | (simp only [List.length_drop, List.length_take]; rfl)) ?_; (with_reducible refine (spec_l1In.calls a0_0 2 9 true _ A26.out).mono ?_); rintro e w' ⟨rfl, ⟨nd, rfl⟩⟩; refine ⟨_, rfl, ?_⟩) | (go_at_call 28; (with_reducible refine (spec_l1In.calls a0_2 0 (wrap64 ((l1.length : Int) - 1)) false _ A29.out).mono ?_); rintro e w' ⟨rfl, ⟨nd, rfl⟩⟩))
           go_meet
           case rel => exact ⟨_, (true), (by first | rfl | (simp; done) | (simp [*]; done)), H', ⟨by have := HJ3.out; have := HJ14.out; first | omega | exact Nat.le_refl _⟩, ⟨by (with_reducible repeat (first | refine blk_drewN ?_ _ | refine blk_drew ?_ | refine blk_alloc ?_ _)); exact BK136.out⟩, ⟨by repeat (first | (with_reducible first | exact HB.out | apply below_alloc | apply pw_below_drewN | apply below_drew1 | refine below_set ?_ GE136.out) | exact HB.out)⟩⟩
         ·rw [if_neg c28] at H
          have c28b0 : (a0_1 == 0) = false := beq_eq_false_iff_ne.mpr c28
          have c28b1 : (a0_1 != 0) = true := bne_iff_ne.mpr c28
          (first | rw [c28b0] | (simp only [i64_w]; rw [c28b0]) | rw [c28b1] | simp only [c28b1] | skip)
          have H' := Aside0.mk H
          clear H
          have hcz34_0 : wc.cell? ⟨gb136, 0, none⟩ = some (.int .i64 a0_0) := (blk_cell BK136.out 0).trans rfl
          have hcz34_1 : wc.cell? ⟨gb136, 1, none⟩ = some (.int .i64 a0_1) := (blk_cell BK136.out 1).trans rfl
          have hcz34_2 : wc.cell? ⟨gb136, 2, none⟩ = some (.int .i64 a0_2) := (blk_cell BK136.out 2).trans rfl
          have hcz34_3 : wc.cell? ⟨gb136, 3, none⟩ = some (.int .i64 a0_3) := (blk_cell BK136.out 3).trans rfl
          have hfz34_0 := blk_frozen BK136.out 0
          have hfz34_1 := blk_frozen BK136.out 1
          have hfz34_2 := blk_frozen BK136.out 2
          have hfz34_3 := blk_frozen BK136.out 3
          go_wp2_with (first | ((with_reducible refine gate_callee (f := 28) rfl ?_); refine goesL_ (some 48) rfl rfl Try.func28 (by kernel_rfl) rfl #[.int .i64 a0_0, .int .i64 2, .int .i64 9] rfl (by (try simp only [List.map_toArray, List.map_cons, List.map_nil]); first | done | rfl | (simp only [List.length_drop, List.length_take]; rfl)) ?_; (with_reducible refine (spec_l1In.calls a0_0 2 9 true _ A26.out).mono ?_); rintro e w' ⟨rfl, ⟨nd, rfl⟩⟩; refine ⟨_, rfl, ?_⟩))
          go_meet
          case rel => exact ⟨_, (true), (by first | rfl | (simp; done) | (simp [*]; done)), H', ⟨by have := HJ3.out; have := HJ14.out; first | omega | exact Nat.le_refl _⟩, ⟨by (with_reducible repeat (first | refine blk_drewN ?_ _ | refine blk_drew ?_ | refine blk_alloc ?_ _)); exact BK136.out⟩, ⟨by repeat (first | (with_reducible first | exact HB.out | apply below_alloc | apply pw_below_drewN | apply below_drew1 | refine below_set ?_ GE136.out) | exact HB.out)⟩⟩
        ·replace c27 := Bool.eq_false_iff.mpr c27
         subst c27
         have H1 : (spec_l1Kind.j2 kj14 l1 true a0_0 a0_1 a0_2 a0_3) = some r := by rw [if_neg (show ¬ (false = true) by decide)] at H; exact H
         clear H
         have H := H1
         clear H1
         have H' := Aside0.mk H
         clear H
         have hcz35_0 : wc.cell? ⟨gb136, 0, none⟩ = some (.int .i64 a0_0) := (blk_cell BK136.out 0).trans rfl
         have hcz35_1 : wc.cell? ⟨gb136, 1, none⟩ = some (.int .i64 a0_1) := (blk_cell BK136.out 1).trans rfl
         have hcz35_2 : wc.cell? ⟨gb136, 2, none⟩ = some (.int .i64 a0_2) := (blk_cell BK136.out 2).trans rfl
         have hcz35_3 : wc.cell? ⟨gb136, 3, none⟩ = some (.int .i64 a0_3) := (blk_cell BK136.out 3).trans rfl
         have hfz35_0 := blk_frozen BK136.out 0
         have hfz35_1 := blk_frozen BK136.out 1
         have hfz35_2 := blk_frozen BK136.out 2
         have hfz35_3 := blk_frozen BK136.out 3
         go_wp2_with (first | ((with_reducible refine gate_callee (f := 28) rfl ?_); refine goesL_ (some 48) rfl rfl Try.func28 (by kernel_rfl) rfl #[.int .i64 a0_0, .int .i64 2, .int .i64 9] rfl (by (try simp only [List.map_toArray, List.map_cons, List.map_nil]); first | done | rfl | (simp only [List.length_drop, List.length_take]; rfl)) ?_; (with_reducible refine (spec_l1In.calls a0_0 2 9 false _ A26.out).mono ?_); rintro e w' ⟨rfl, ⟨nd, rfl⟩⟩; refine ⟨_, rfl, ?_⟩))
         go_meet
         case rel => exact ⟨_, (true), (by first | rfl | (simp; done) | (simp [*]; done)), H', ⟨by have := HJ3.out; have := HJ14.out; first | omega | exact Nat.le_refl _⟩, ⟨by (with_reducible repeat (first | refine blk_drewN ?_ _ | refine blk_drew ?_ | refine blk_alloc ?_ _)); exact BK136.out⟩, ⟨by repeat (first | (with_reducible first | exact HB.out | apply below_alloc | apply pw_below_drewN | apply below_drew1 | refine below_set ?_ GE136.out) | exact HB.out)⟩⟩
       case rest =>
        clear HC25
        try clear c1
        try clear c2
        try clear p2
        try clear c3
        try clear c4
        try clear c6
        try clear c6b0
        try clear c6b1
        try clear p6
        try clear c8
        try clear c9
        try clear c9b0
        try clear c9b1
        try clear c14
        try clear c16
        try clear c16b0
        try clear c16b1
        try clear c18
        try clear c19
        try clear c19b0
        try clear c19b1
        try clear c24
        try clear c27
        try clear c28
        try clear c28b0
        try clear c28b1
        try clear c30
        try clear hcz10_0
        try clear hcz10_1
        try clear hcz10_2
        try clear hcz10_3
        try clear hcz11_0
        try clear hcz11_1
        try clear hcz11_2
        try clear hcz11_3
        try clear hcz12_0
        try clear hcz12_1
        try clear hcz12_2
        try clear hcz12_3
        try clear hcz13_0
        try clear hcz13_1
        try clear hcz13_2
        try clear hcz13_3
        try clear hcz20_0
        try clear hcz20_1
        try clear hcz20_2
        try clear hcz20_3
        try clear hcz21_0
        try clear hcz21_1
        try clear hcz21_2
        try clear hcz21_3
        try clear hcz22_0
        try clear hcz22_1
        try clear hcz22_2
        try clear hcz22_3
        try clear hcz23_0
        try clear hcz23_1
        try clear hcz23_2
        try clear hcz23_3
        try clear hcz32_0
        try clear hcz32_1
        try clear hcz32_2
        try clear hcz32_3
        try clear hcz33_0
        try clear hcz33_1
        try clear hcz33_2
        try clear hcz33_3
        try clear hcz34_0
        try clear hcz34_1
        try clear hcz34_2
        try clear hcz34_3
        try clear hcz35_0
        try clear hcz35_1
        try clear hcz35_2
        try clear hcz35_3
        try clear hfz10_0
        try clear hfz10_1
        try clear hfz10_2
        try clear hfz10_3
        try clear hfz11_0
        try clear hfz11_1
        try clear hfz11_2
        try clear hfz11_3
        try clear hfz12_0
        try clear hfz12_1
        try clear hfz12_2
        try clear hfz12_3
        try clear hfz13_0
        try clear hfz13_1
        try clear hfz13_2
        try clear hfz13_3
        try clear hfz20_0
        try clear hfz20_1
        try clear hfz20_2
        try clear hfz20_3
        try clear hfz21_0
        try clear hfz21_1
        try clear hfz21_2
        try clear hfz21_3
        try clear hfz22_0
        try clear hfz22_1
        try clear hfz22_2
        try clear hfz22_3
        try clear hfz23_0
        try clear hfz23_1
        try clear hfz23_2
        try clear hfz23_3
        try clear hfz32_0
        try clear hfz32_1
        try clear hfz32_2
        try clear hfz32_3
        try clear hfz33_0
        try clear hfz33_1
        try clear hfz33_2
        try clear hfz33_3
        try clear hfz34_0
        try clear hfz34_1
        try clear hfz34_2
        try clear hfz34_3
        try clear hfz35_0
        try clear hfz35_1
        try clear hfz35_2
        try clear hfz35_3
        try clear p2
        try clear p6
        obtain ⟨kq, x72_24, rfl, HA, HJ24, BK136, HB⟩ := hcut
        cases kq with
        | zero => exact absurd HA.out (by simp [spec_l1Kind.j2])
        | succ kj24 =>
         have H := HA.out
         clear HA
         simp only [spec_l1Kind.j2] at H
         by_cases c36 : x72_24 = true
         ·subst c36
          have H1 : (some 0) = some r := by rw [if_pos rfl] at H; exact H
          clear H
          have H := H1
          clear H1
          obtain rfl := Option.some.inj H
          go_wp2
          go_ret
          exact ⟨by first | rfl | (simp [errW_none, errW_some] <;> rfl) | (simp [*, errW_none, errW_some] <;> rfl), by repeat (first | (with_reducible first | exact HB.out | apply below_alloc | apply pw_below_drewN | apply below_drew1 | refine below_set ?_ GE136.out) | exact HB.out)⟩
         ·replace c36 := Bool.eq_false_iff.mpr c36
          subst c36
          have H1 : (if a0_0 ≥ 7 then (spec_l1Kind.j3 kj24 l1 2 a0_0 a0_1 a0_2 a0_3) else (spec_l1Kind.j3 kj24 l1 1 a0_0 a0_1 a0_2 a0_3)) = some r := by rw [if_neg (show ¬ (false = true) by decide)] at H; exact H
          clear H
          have H := H1
          clear H1
          have HC37 := Aside0.mk H
          clear H
          have hcz38_0 : wc.cell? ⟨gb136, 0, none⟩ = some (.int .i64 a0_0) := (blk_cell BK136.out 0).trans rfl
          have hcz38_1 : wc.cell? ⟨gb136, 1, none⟩ = some (.int .i64 a0_1) := (blk_cell BK136.out 1).trans rfl
          have hcz38_2 : wc.cell? ⟨gb136, 2, none⟩ = some (.int .i64 a0_2) := (blk_cell BK136.out 2).trans rfl
          have hcz38_3 : wc.cell? ⟨gb136, 3, none⟩ = some (.int .i64 a0_3) := (blk_cell BK136.out 3).trans rfl
          have hfz38_0 := blk_frozen BK136.out 0
          have hfz38_1 := blk_frozen BK136.out 1
          have hfz38_2 := blk_frozen BK136.out 2
          have hfz38_3 := blk_frozen BK136.out 3
          go_upto_if 75 with (fail)
          go_cut [7] (fun v7 wc => ∃ (kq : Nat) (x7_36 : Int), v7 = .int .i64 x7_36 ∧ Aside0 (spec_l1Kind.j3 kq l1 x7_36 a0_0 a0_1 a0_2 a0_3 = some r) ∧ Aside0 (kq ≤ kj24) ∧ Aside0 (wc.heap[gb136]? = some (.cells #[.int .i64 a0_0, .int .i64 a0_1, .int .i64 a0_2, .int .i64 a0_3] 54 (0, 0))) ∧ Aside0 (Below w.heap.size w wc))
          case first =>
           have H := HC37.out
           clear HC37
           by_cases c39 : a0_0 ≥ 7
           ·rw [if_pos c39] at H
            have c39b0 : decide (7 ≤ a0_0) = true := decide_eq_true c39
            clear c39
            (first | rw [c39b0] | (simp only [i64_w]; rw [c39b0]) | rw [c39b1] | simp only [c39b1] | skip)
            have H' := Aside0.mk H
            clear H
            go_wp2
            go_meet
            case rel => exact ⟨_, (2), (by first | rfl | (simp; done) | (simp [*]; done)), H', ⟨by have := HJ3.out; have := HJ14.out; have := HJ24.out; first | omega | exact Nat.le_refl _⟩, ⟨by (with_reducible repeat (first | refine blk_drewN ?_ _ | refine blk_drew ?_ | refine blk_alloc ?_ _)); exact BK136.out⟩, ⟨by repeat (first | (with_reducible first | exact HB.out | apply below_alloc | apply pw_below_drewN | apply below_drew1 | refine below_set ?_ GE136.out) | exact HB.out)⟩⟩
           ·rw [if_neg c39] at H
            have c39b0 : decide (7 ≤ a0_0) = false := decide_eq_false c39
            clear c39
            (first | rw [c39b0] | (simp only [i64_w]; rw [c39b0]) | rw [c39b1] | simp only [c39b1] | skip)
            have H' := Aside0.mk H
            clear H
            go_wp2
            go_meet
            case rel => exact ⟨_, (1), (by first | rfl | (simp; done) | (simp [*]; done)), H', ⟨by have := HJ3.out; have := HJ14.out; have := HJ24.out; first | omega | exact Nat.le_refl _⟩, ⟨by (with_reducible repeat (first | refine blk_drewN ?_ _ | refine blk_drew ?_ | refine blk_alloc ?_ _)); exact BK136.out⟩, ⟨by repeat (first | (with_reducible first | exact HB.out | apply below_alloc | apply pw_below_drewN | apply below_drew1 | refine below_set ?_ GE136.out) | exact HB.out)⟩⟩
          case rest =>
           clear HC37
           try clear c1
           try clear c2
           try clear p2
           try clear c3
           try clear c4
           try clear c6
           try clear c6b0
           try clear c6b1
           try clear p6
           try clear c8
           try clear c9
           try clear c9b0
           try clear c9b1
           try clear c14
           try clear c16
           try clear c16b0
           try clear c16b1
           try clear c18
           try clear c19
           try clear c19b0
           try clear c19b1
           try clear c24
           try clear c27
           try clear c28
           try clear c28b0
           try clear c28b1
           try clear c30
           try clear c36
           try clear c39
           try clear c39b0
           try clear c39b1
           try clear hcz10_0
           try clear hcz10_1
           try clear hcz10_2
           try clear hcz10_3
           try clear hcz11_0
           try clear hcz11_1
           try clear hcz11_2
           try clear hcz11_3
           try clear hcz12_0
           try clear hcz12_1
           try clear hcz12_2
           try clear hcz12_3
           try clear hcz13_0
           try clear hcz13_1
           try clear hcz13_2
           try clear hcz13_3
           try clear hcz20_0
           try clear hcz20_1
           try clear hcz20_2
           try clear hcz20_3
           try clear hcz21_0
           try clear hcz21_1
           try clear hcz21_2
           try clear hcz21_3
           try clear hcz22_0
           try clear hcz22_1
           try clear hcz22_2
           try clear hcz22_3
           try clear hcz23_0
           try clear hcz23_1
           try clear hcz23_2
           try clear hcz23_3
           try clear hcz32_0
           try clear hcz32_1
           try clear hcz32_2
           try clear hcz32_3
           try clear hcz33_0
           try clear hcz33_1
           try clear hcz33_2
           try clear hcz33_3
           try clear hcz34_0
           try clear hcz34_1
           try clear hcz34_2
           try clear hcz34_3
           try clear hcz35_0
           try clear hcz35_1
           try clear hcz35_2
           try clear hcz35_3
           try clear hcz38_0
           try clear hcz38_1
           try clear hcz38_2
           try clear hcz38_3
           try clear hfz10_0
           try clear hfz10_1
           try clear hfz10_2
           try clear hfz10_3
           try clear hfz11_0
           try clear hfz11_1
           try clear hfz11_2
           try clear hfz11_3
           try clear hfz12_0
           try clear hfz12_1
           try clear hfz12_2
           try clear hfz12_3
           try clear hfz13_0
           try clear hfz13_1
           try clear hfz13_2
           try clear hfz13_3
           try clear hfz20_0
           try clear hfz20_1
           try clear hfz20_2
           try clear hfz20_3
           try clear hfz21_0
           try clear hfz21_1
           try clear hfz21_2
           try clear hfz21_3
           try clear hfz22_0
           try clear hfz22_1
           try clear hfz22_2
           try clear hfz22_3
           try clear hfz23_0
           try clear hfz23_1
           try clear hfz23_2
           try clear hfz23_3
           try clear hfz32_0
           try clear hfz32_1
           try clear hfz32_2
           try clear hfz32_3
           try clear hfz33_0
           try clear hfz33_1
           try clear hfz33_2
           try clear hfz33_3
           try clear hfz34_0
           try clear hfz34_1
           try clear hfz34_2
           try clear hfz34_3
           try clear hfz35_0
           try clear hfz35_1
           try clear hfz35_2
           try clear hfz35_3
           try clear hfz38_0
           try clear hfz38_1
           try clear hfz38_2
           try clear hfz38_3
           try clear p2
           try clear p6
           obtain ⟨kq, x7_36, rfl, HA, HJ36, BK136, HB⟩ := hcut
           cases kq with
           | zero => exact absurd HA.out (by simp [spec_l1Kind.j3])
           | succ kj36 =>
            have H := HA.out
            clear HA
            simp only [spec_l1Kind.j3] at H
            have HC40 := Aside0.mk H
            clear H
            go_upto_region 10 with (fail)
            go_cut [103] (fun v103 wc => ∃ (kq : Nat) (x103_39 : Bool), v103 = .bool x103_39 ∧ Aside0 (spec_l1Kind.j4 kq x103_39 a0_0 a0_1 a0_2 a0_3 = some r) ∧ Aside0 (kq ≤ kj36) ∧ Aside0 (wc.heap[gb136]? = some (.cells #[.int .i64 a0_0, .int .i64 a0_1, .int .i64 a0_2, .int .i64 a0_3] 54 (0, 0))) ∧ Aside0 (Below w.heap.size w wc))
            case first =>
             have H := HC40.out
             clear HC40
             by_cases c41 : 0 ≤ a0_2
             ·rw [if_pos c41] at H
              have c41b0 : decide (0 ≤ a0_2) = true := decide_eq_true c41
              clear c41
              (first | rw [c41b0] | (simp only [i64_w]; rw [c41b0]) | rw [c41b1] | simp only [c41b1] | skip)
              by_cases c42 : a0_2 < (l1.length : Int)
              ·rw [if_pos c42] at H
               have c42b0 : decide (a0_2 < (l1.length : Int)) = true := decide_eq_true c42
               clear c42
               by_cases c43 : (rd l1 a0_2) = x7_36
               ·rw [if_pos c43] at H
                have c43b0 : ((rd l1 a0_2) == x7_36) = true := beq_iff_eq.mpr c43
                have c43b1 : ((rd l1 a0_2) != x7_36) = false := bne_eq_false_iff_eq.mpr c43
                clear c43
                by_cases c44 : 0 ≤ a0_3
                ·rw [if_pos c44] at H
                 have c44b0 : decide (0 ≤ a0_3) = true := decide_eq_true c44
                 clear c44
                 by_cases c45 : a0_3 < (l1.length : Int)
                 ·rw [if_pos c45] at H
                  have c45b0 : decide (a0_3 < (l1.length : Int)) = true := decide_eq_true c45
                  clear c45
                  by_cases c46 : (rd l1 a0_3) = x7_36
                  ·rw [if_pos c46] at H
                   have c46b0 : ((rd l1 a0_3) == x7_36) = true := beq_iff_eq.mpr c46
                   have c46b1 : ((rd l1 a0_3) != x7_36) = false := bne_eq_false_iff_eq.mpr c46
                   clear c46
                   replace H := Option.bind_eq_some_iff.mp H
                   obtain ⟨t144, A470, H⟩ := H
                   replace H : (if t144 = true then (spec_l1Kind.j4 kj36 (a0_3 != a0_2) a0_0 a0_1 a0_2 a0_3) else (spec_l1Kind.j4 kj36 false a0_0 a0_1 a0_2 a0_3)) = some r := H
                   have A47 := Aside0.mk A470
                   clear A470
                   by_cases c48 : t144 = true
                   ·subst c48
                    have H1 : (spec_l1Kind.j4 kj36 (a0_3 != a0_2) a0_0 a0_1 a0_2 a0_3) = some r := by rw [if_pos rfl] at H; exact H
                    clear H
                    have H := H1
                    clear H1
                    have H' := Aside0.mk H
                    clear H
                    have hcz49_0 : wc.cell? ⟨gb136, 0, none⟩ = some (.int .i64 a0_0) := (blk_cell BK136.out 0).trans rfl
                    have hcz49_1 : wc.cell? ⟨gb136, 1, none⟩ = some (.int .i64 a0_1) := (blk_cell BK136.out 1).trans rfl
                    have hcz49_2 : wc.cell? ⟨gb136, 2, none⟩ = some (.int .i64 a0_2) := (blk_cell BK136.out 2).trans rfl
                    have hcz49_3 : wc.cell? ⟨gb136, 3, none⟩ = some (.int .i64 a0_3) := (blk_cell BK136.out 3).trans rfl
                    have hfz49_0 := blk_frozen BK136.out 0
                    have hfz49_1 := blk_frozen BK136.out 1
                    have hfz49_2 := blk_frozen BK136.out 2
                    have hfz49_3 := blk_frozen BK136.out 3
                    have p142 : 0 ≤ (a0_2 : Int) := of_decide_eq_true (by first | (with_reducible assumption) | assumption)
                    have q142 : a0_2 < (l1.length : Int) := of_decide_eq_true (by first | (with_reducible assumption) | assumption)
                    obtain ⟨ad142, e142, hx142_0⟩ := Kd.at_int HR1.out a0_2 p142 q142
                    cases e142
                    replace hx142_0 := (HB.out.cell (World.block_lt_of_cell? w _ hx142_0)).trans hx142_0
                    replace p142 := eq_true p142
                    replace q142 := eq_true q142
                    have p143 : 0 ≤ (a0_3 : Int) := of_decide_eq_true (by first | (with_reducible assumption) | assumption)
                    have q143 : a0_3 < (l1.length : Int) := of_decide_eq_true (by first | (with_reducible assumption) | assumption)
                    obtain ⟨ad143, e143, hx143_0⟩ := Kd.at_int HR1.out a0_3 p143 q143
                    obtain rfl : ad142 = ad143 := (by injection e143)
                    replace hx143_0 := (HB.out.cell (World.block_lt_of_cell? w _ hx143_0)).trans hx143_0
                    replace p143 := eq_true p143
                    replace q143 := eq_true q143
                    go_wp2_with (first | (go_at_call 50; (with_reducible refine (spec_l1One.calls a0_0 true _ A47.out).mono ?_); rintro e w' ⟨rfl, ⟨nd, rfl⟩⟩))
                    go_meet
                    case rel => exact ⟨_, ((a0_3 != a0_2)), (by first | rfl | (simp; done) | (simp [*]; done)), H', ⟨by have := HJ3.out; have := HJ14.out; have := HJ24.out; have := HJ36.out; first | omega | exact Nat.le_refl _⟩, ⟨by (with_reducible repeat (first | refine blk_drewN ?_ _ | refine blk_drew ?_ | refine blk_alloc ?_ _)); exact BK136.out⟩, ⟨by repeat (first | (with_reducible first | exact HB.out | apply below_alloc | apply pw_below_drewN | apply below_drew1 | refine below_set ?_ GE136.out) | exact HB.out)⟩⟩
                   ·replace c48 := Bool.eq_false_iff.mpr c48
                    subst c48
                    have H1 : (spec_l1Kind.j4 kj36 false a0_0 a0_1 a0_2 a0_3) = some r := by rw [if_neg (show ¬ (false = true) by decide)] at H; exact H
                    clear H
                    have H := H1
                    clear H1
                    have H' := Aside0.mk H
                    clear H
                    have hcz50_0 : wc.cell? ⟨gb136, 0, none⟩ = some (.int .i64 a0_0) := (blk_cell BK136.out 0).trans rfl
                    have hcz50_1 : wc.cell? ⟨gb136, 1, none⟩ = some (.int .i64 a0_1) := (blk_cell BK136.out 1).trans rfl
                    have hcz50_2 : wc.cell? ⟨gb136, 2, none⟩ = some (.int .i64 a0_2) := (blk_cell BK136.out 2).trans rfl
                    have hcz50_3 : wc.cell? ⟨gb136, 3, none⟩ = some (.int .i64 a0_3) := (blk_cell BK136.out 3).trans rfl
                    have hfz50_0 := blk_frozen BK136.out 0
                    have hfz50_1 := blk_frozen BK136.out 1
                    have hfz50_2 := blk_frozen BK136.out 2
                    have hfz50_3 := blk_frozen BK136.out 3
                    have p142 : 0 ≤ (a0_2 : Int) := of_decide_eq_true (by first | (with_reducible assumption) | assumption)
                    have q142 : a0_2 < (l1.length : Int) := of_decide_eq_true (by first | (with_reducible assumption) | assumption)
                    obtain ⟨ad142, e142, hx142_0⟩ := Kd.at_int HR1.out a0_2 p142 q142
                    cases e142
                    replace hx142_0 := (HB.out.cell (World.block_lt_of_cell? w _ hx142_0)).trans hx142_0
                    replace p142 := eq_true p142
                    replace q142 := eq_true q142
                    have p143 : 0 ≤ (a0_3 : Int) := of_decide_eq_true (by first | (with_reducible assumption) | assumption)
                    have q143 : a0_3 < (l1.length : Int) := of_decide_eq_true (by first | (with_reducible assumption) | assumption)
                    obtain ⟨ad143, e143, hx143_0⟩ := Kd.at_int HR1.out a0_3 p143 q143
                    obtain rfl : ad142 = ad143 := (by injection e143)
                    replace hx143_0 := (HB.out.cell (World.block_lt_of_cell? w _ hx143_0)).trans hx143_0
                    replace p143 := eq_true p143
                    replace q143 := eq_true q143
                    go_wp2_with (first | (go_at_call 50; (with_reducible refine (spec_l1One.calls a0_0 false _ A47.out).mono ?_); rintro e w' ⟨rfl, ⟨nd, rfl⟩⟩))
                    go_meet
                    case rel => exact ⟨_, (false), (by first | rfl | (simp; done) | (simp [*]; done)), H', ⟨by have := HJ3.out; have := HJ14.out; have := HJ24.out; have := HJ36.out; first | omega | exact Nat.le_refl _⟩, ⟨by (with_reducible repeat (first | refine blk_drewN ?_ _ | refine blk_drew ?_ | refine blk_alloc ?_ _)); exact BK136.out⟩, ⟨by repeat (first | (with_reducible first | exact HB.out | apply below_alloc | apply pw_below_drewN | apply below_drew1 | refine below_set ?_ GE136.out) | exact HB.out)⟩⟩
                  ·rw [if_neg c46] at H
                   have c46b0 : ((rd l1 a0_3) == x7_36) = false := beq_eq_false_iff_ne.mpr c46
                   have c46b1 : ((rd l1 a0_3) != x7_36) = true := bne_iff_ne.mpr c46
                   have H' := Aside0.mk H
                   clear H
                   have hcz51_0 : wc.cell? ⟨gb136, 0, none⟩ = some (.int .i64 a0_0) := (blk_cell BK136.out 0).trans rfl
                   have hcz51_1 : wc.cell? ⟨gb136, 1, none⟩ = some (.int .i64 a0_1) := (blk_cell BK136.out 1).trans rfl
                   have hcz51_2 : wc.cell? ⟨gb136, 2, none⟩ = some (.int .i64 a0_2) := (blk_cell BK136.out 2).trans rfl
                   have hcz51_3 : wc.cell? ⟨gb136, 3, none⟩ = some (.int .i64 a0_3) := (blk_cell BK136.out 3).trans rfl
                   have hfz51_0 := blk_frozen BK136.out 0
                   have hfz51_1 := blk_frozen BK136.out 1
                   have hfz51_2 := blk_frozen BK136.out 2
                   have hfz51_3 := blk_frozen BK136.out 3
                   have p142 : 0 ≤ (a0_2 : Int) := of_decide_eq_true (by first | (with_reducible assumption) | assumption)
                   have q142 : a0_2 < (l1.length : Int) := of_decide_eq_true (by first | (with_reducible assumption) | assumption)
                   obtain ⟨ad142, e142, hx142_0⟩ := Kd.at_int HR1.out a0_2 p142 q142
                   cases e142
                   replace hx142_0 := (HB.out.cell (World.block_lt_of_cell? w _ hx142_0)).trans hx142_0
                   replace p142 := eq_true p142
                   replace q142 := eq_true q142
                   have p143 : 0 ≤ (a0_3 : Int) := of_decide_eq_true (by first | (with_reducible assumption) | assumption)
                   have q143 : a0_3 < (l1.length : Int) := of_decide_eq_true (by first | (with_reducible assumption) | assumption)
                   obtain ⟨ad143, e143, hx143_0⟩ := Kd.at_int HR1.out a0_3 p143 q143
                   obtain rfl : ad142 = ad143 := (by injection e143)
                   replace hx143_0 := (HB.out.cell (World.block_lt_of_cell? w _ hx143_0)).trans hx143_0
                   replace p143 := eq_true p143
                   replace q143 := eq_true q143
                   go_wp2
                   go_meet
                   case rel => exact ⟨_, (true), (by first | rfl | (simp; done) | (simp [*]; done)), H', ⟨by have := HJ3.out; have := HJ14.out; have := HJ24.out; have := HJ36.out; first | omega | exact Nat.le_refl _⟩, ⟨by (with_reducible repeat (first | refine blk_drewN ?_ _ | refine blk_drew ?_ | refine blk_alloc ?_ _)); exact BK136.out⟩, ⟨by repeat (first | (with_reducible first | exact HB.out | apply below_alloc | apply pw_below_drewN | apply below_drew1 | refine below_set ?_ GE136.out) | exact HB.out)⟩⟩
                 ·rw [if_neg c45] at H
                  exact absurd H (by simp)
                ·rw [if_neg c44] at H
                 exact absurd H (by simp)
               ·rw [if_neg c43] at H
                have c43b0 : ((rd l1 a0_2) == x7_36) = false := beq_eq_false_iff_ne.mpr c43
                have c43b1 : ((rd l1 a0_2) != x7_36) = true := bne_iff_ne.mpr c43
                have H' := Aside0.mk H
                clear H
                have hcz52_0 : wc.cell? ⟨gb136, 0, none⟩ = some (.int .i64 a0_0) := (blk_cell BK136.out 0).trans rfl
                have hcz52_1 : wc.cell? ⟨gb136, 1, none⟩ = some (.int .i64 a0_1) := (blk_cell BK136.out 1).trans rfl
                have hcz52_2 : wc.cell? ⟨gb136, 2, none⟩ = some (.int .i64 a0_2) := (blk_cell BK136.out 2).trans rfl
                have hcz52_3 : wc.cell? ⟨gb136, 3, none⟩ = some (.int .i64 a0_3) := (blk_cell BK136.out 3).trans rfl
                have hfz52_0 := blk_frozen BK136.out 0
                have hfz52_1 := blk_frozen BK136.out 1
                have hfz52_2 := blk_frozen BK136.out 2
                have hfz52_3 := blk_frozen BK136.out 3
                have p142 : 0 ≤ (a0_2 : Int) := of_decide_eq_true (by first | (with_reducible assumption) | assumption)
                have q142 : a0_2 < (l1.length : Int) := of_decide_eq_true (by first | (with_reducible assumption) | assumption)
                obtain ⟨ad142, e142, hx142_0⟩ := Kd.at_int HR1.out a0_2 p142 q142
                cases e142
                replace hx142_0 := (HB.out.cell (World.block_lt_of_cell? w _ hx142_0)).trans hx142_0
                replace p142 := eq_true p142
                replace q142 := eq_true q142
                go_wp2
                go_meet
                case rel => exact ⟨_, (true), (by first | rfl | (simp; done) | (simp [*]; done)), H', ⟨by have := HJ3.out; have := HJ14.out; have := HJ24.out; have := HJ36.out; first | omega | exact Nat.le_refl _⟩, ⟨by (with_reducible repeat (first | refine blk_drewN ?_ _ | refine blk_drew ?_ | refine blk_alloc ?_ _)); exact BK136.out⟩, ⟨by repeat (first | (with_reducible first | exact HB.out | apply below_alloc | apply pw_below_drewN | apply below_drew1 | refine below_set ?_ GE136.out) | exact HB.out)⟩⟩
              ·rw [if_neg c42] at H
               exact absurd H (by simp)
             ·rw [if_neg c41] at H
              exact absurd H (by simp)
            case rest =>
             clear HC40
             try clear c1
             try clear p1
             try clear q1
             try clear hx1
             try clear c2
             try clear p2
             try clear c3
             try clear c4
             try clear c6
             try clear c6b0
             try clear c6b1
             try clear p6
             try clear c8
             try clear c9
             try clear c9b0
             try clear c9b1
             try clear c14
             try clear p14
             try clear q14
             try clear hx14
             try clear c16
             try clear c16b0
             try clear c16b1
             try clear c18
             try clear c19
             try clear c19b0
             try clear c19b1
             try clear c24
             try clear c27
             try clear c28
             try clear c28b0
             try clear c28b1
             try clear c30
             try clear c36
             try clear c39
             try clear c39b0
             try clear c39b1
             try clear c41
             try clear c41b0
             try clear c41b1
             try clear c42
             try clear c42b0
             try clear c43
             try clear c43b0
             try clear c43b1
             try clear c44
             try clear c44b0
             try clear c45
             try clear c45b0
             try clear c46
             try clear c46b0
             try clear c46b1
             try clear c48
             try clear hcz10_0
             try clear hcz10_1
             try clear hcz10_2
             try clear hcz10_3
             try clear hcz11_0
             try clear hcz11_1
             try clear hcz11_2
             try clear hcz11_3
             try clear hcz12_0
             try clear hcz12_1
             try clear hcz12_2
             try clear hcz12_3
             try clear hcz13_0
             try clear hcz13_1
             try clear hcz13_2
             try clear hcz13_3
             try clear hcz20_0
             try clear hcz20_1
             try clear hcz20_2
             try clear hcz20_3
             try clear hcz21_0
             try clear hcz21_1
             try clear hcz21_2
             try clear hcz21_3
             try clear hcz22_0
             try clear hcz22_1
             try clear hcz22_2
             try clear hcz22_3
             try clear hcz23_0
             try clear hcz23_1
             try clear hcz23_2
             try clear hcz23_3
             try clear hcz32_0
             try clear hcz32_1
             try clear hcz32_2
             try clear hcz32_3
             try clear hcz33_0
             try clear hcz33_1
             try clear hcz33_2
             try clear hcz33_3
             try clear hcz34_0
             try clear hcz34_1
             try clear hcz34_2
             try clear hcz34_3
             try clear hcz35_0
             try clear hcz35_1
             try clear hcz35_2
             try clear hcz35_3
             try clear hcz38_0
             try clear hcz38_1
             try clear hcz38_2
             try clear hcz38_3
             try clear hcz49_0
             try clear hcz49_1
             try clear hcz49_2
             try clear hcz49_3
             try clear hcz50_0
             try clear hcz50_1
             try clear hcz50_2
             try clear hcz50_3
             try clear hcz51_0
             try clear hcz51_1
             try clear hcz51_2
             try clear hcz51_3
             try clear hcz52_0
             try clear hcz52_1
             try clear hcz52_2
             try clear hcz52_3
             try clear hfz10_0
             try clear hfz10_1
             try clear hfz10_2
             try clear hfz10_3
             try clear hfz11_0
             try clear hfz11_1
             try clear hfz11_2
             try clear hfz11_3
             try clear hfz12_0
             try clear hfz12_1
             try clear hfz12_2
             try clear hfz12_3
             try clear hfz13_0
             try clear hfz13_1
             try clear hfz13_2
             try clear hfz13_3
             try clear hfz20_0
             try clear hfz20_1
             try clear hfz20_2
             try clear hfz20_3
             try clear hfz21_0
             try clear hfz21_1
             try clear hfz21_2
             try clear hfz21_3
             try clear hfz22_0
             try clear hfz22_1
             try clear hfz22_2
             try clear hfz22_3
             try clear hfz23_0
             try clear hfz23_1
             try clear hfz23_2
             try clear hfz23_3
             try clear hfz32_0
             try clear hfz32_1
             try clear hfz32_2
             try clear hfz32_3
             try clear hfz33_0
             try clear hfz33_1
             try clear hfz33_2
             try clear hfz33_3
             try clear hfz34_0
             try clear hfz34_1
             try clear hfz34_2
             try clear hfz34_3
             try clear hfz35_0
             try clear hfz35_1
             try clear hfz35_2
             try clear hfz35_3
             try clear hfz38_0
             try clear hfz38_1
             try clear hfz38_2
             try clear hfz38_3
             try clear hfz49_0
             try clear hfz49_1
             try clear hfz49_2
             try clear hfz49_3
             try clear hfz50_0
             try clear hfz50_1
             try clear hfz50_2
             try clear hfz50_3
             try clear hfz51_0
             try clear hfz51_1
             try clear hfz51_2
             try clear hfz51_3
             try clear hfz52_0
             try clear hfz52_1
             try clear hfz52_2
             try clear hfz52_3
             try clear hx142_0
             try clear hx143_0
             try clear p142
             try clear p143
             try clear p2
             try clear p6
             try clear q142
             try clear q143
             obtain ⟨kq, x103_39, rfl, HA, HJ39, BK136, HB⟩ := hcut
             cases kq with
             | zero => exact absurd HA.out (by simp [spec_l1Kind.j4])
             | succ kj39 =>
              have H := HA.out
              clear HA
              simp only [spec_l1Kind.j4] at H
              by_cases c53 : x103_39 = true
              ·subst c53
               have H1 : (some 0) = some r := by rw [if_pos rfl] at H; exact H
               clear H
               have H := H1
               clear H1
               obtain rfl := Option.some.inj H
               go_wp2
               go_ret
               exact ⟨by first | rfl | (simp [errW_none, errW_some] <;> rfl) | (simp [*, errW_none, errW_some] <;> rfl), by repeat (first | (with_reducible first | exact HB.out | apply below_alloc | apply pw_below_drewN | apply below_drew1 | refine below_set ?_ GE136.out) | exact HB.out)⟩
              ·replace c53 := Bool.eq_false_iff.mpr c53
               subst c53
               have H1 : (if a0_0 ≥ 5 then (some 2) else (some 1)) = some r := by rw [if_neg (show ¬ (false = true) by decide)] at H; exact H
               clear H
               have H := H1
               clear H1
               by_cases c54 : a0_0 ≥ 5
               ·rw [if_pos c54] at H
                have c54b0 : decide (5 ≤ a0_0) = true := decide_eq_true c54
                clear c54
                obtain rfl := Option.some.inj H
                have hcz55_0 : wc.cell? ⟨gb136, 0, none⟩ = some (.int .i64 a0_0) := (blk_cell BK136.out 0).trans rfl
                have hcz55_1 : wc.cell? ⟨gb136, 1, none⟩ = some (.int .i64 a0_1) := (blk_cell BK136.out 1).trans rfl
                have hcz55_2 : wc.cell? ⟨gb136, 2, none⟩ = some (.int .i64 a0_2) := (blk_cell BK136.out 2).trans rfl
                have hcz55_3 : wc.cell? ⟨gb136, 3, none⟩ = some (.int .i64 a0_3) := (blk_cell BK136.out 3).trans rfl
                have hfz55_0 := blk_frozen BK136.out 0
                have hfz55_1 := blk_frozen BK136.out 1
                have hfz55_2 := blk_frozen BK136.out 2
                have hfz55_3 := blk_frozen BK136.out 3
                go_wp2
                go_ret
                exact ⟨by first | rfl | (simp [errW_none, errW_some] <;> rfl) | (simp [*, errW_none, errW_some] <;> rfl), by repeat (first | (with_reducible first | exact HB.out | apply below_alloc | apply pw_below_drewN | apply below_drew1 | refine below_set ?_ GE136.out) | exact HB.out)⟩
               ·rw [if_neg c54] at H
                have c54b0 : decide (5 ≤ a0_0) = false := decide_eq_false c54
                clear c54
                obtain rfl := Option.some.inj H
                have hcz56_0 : wc.cell? ⟨gb136, 0, none⟩ = some (.int .i64 a0_0) := (blk_cell BK136.out 0).trans rfl
                have hcz56_1 : wc.cell? ⟨gb136, 1, none⟩ = some (.int .i64 a0_1) := (blk_cell BK136.out 1).trans rfl
                have hcz56_2 : wc.cell? ⟨gb136, 2, none⟩ = some (.int .i64 a0_2) := (blk_cell BK136.out 2).trans rfl
                have hcz56_3 : wc.cell? ⟨gb136, 3, none⟩ = some (.int .i64 a0_3) := (blk_cell BK136.out 3).trans rfl
                have hfz56_0 := blk_frozen BK136.out 0
                have hfz56_1 := blk_frozen BK136.out 1
                have hfz56_2 := blk_frozen BK136.out 2
                have hfz56_3 := blk_frozen BK136.out 3
                go_wp2
                go_ret
                exact ⟨by first | rfl | (simp [errW_none, errW_some] <;> rfl) | (simp [*, errW_none, errW_some] <;> rfl), by repeat (first | (with_reducible first | exact HB.out | apply below_alloc | apply pw_below_drewN | apply below_drew1 | refine below_set ?_ GE136.out) | exact HB.out)⟩

end Go.Proofs.Ytnidjlhbejifoaa.XFnSameRun
