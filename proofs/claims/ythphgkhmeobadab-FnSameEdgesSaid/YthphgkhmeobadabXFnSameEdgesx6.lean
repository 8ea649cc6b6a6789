/- Printed by a program of this session out of the translation: the Go functions that a law uses as plain Lean functions, with the proofs of their calls, or the law's row.
Conditions: those that each theorem states. -/
import Derived.Test.YthphgkhmeobadabXFnSameEdgesx0
import Derived.Test.YthphgkhmeobadabXFnSameEdgesx1
import Derived.Test.YthphgkhmeobadabXFnSameEdgesx3
import Derived.Test.YthphgkhmeobadabXFnSameEdgesx4
import Derived.Test.YthphgkhmeobadabXFnSameEdgesx5
namespace Go.Proofs.Ythphgkhmeobadab.XFnSameEdges
open Go.RowKit Go.Proofs.YthphgkhmeobadabW.PrintWords Go.Proofs.YthphgkhmeobadabW.PrintLast Go.Proofs.YthphgkhmeobadabW.PrintMore
attribute [local go_sem] max2_int min2_int max_two min_two max_three min_three max_four min_four   -- for this text's walks alone
set_option linter.unusedVariables false
set_option linter.unusedSimpArgs false

/-! ### spec_l7Copy: function 37 -/
def spec_l7Copy.l0 : Nat → Int → Int → List (S73) → Int → List (S73) → Option (Int × (List (S73)))
 | 0, _, _, _, _, _ => none
 | k + 1, x4, x200000, x200001, x202000, x202001 => if x4 < (x200001.length : Int) then (if 0 ≤ x4 then (if x202001.length < 8796093022208 then (spec_l7Copy.l0 k (wrap64 (x4 + 1)) x200000 x200001 x202000 (x202001 ++ [(⟨(rd_T73 x200001 x4).f0, (rd_T73 x200001 x4).f1⟩ : S73)])) else (none)) else (none)) else (some (x202000, x202001))
def spec_l7Copy.f (k : Nat) (a0_0 : Int) (l0_1 : List (S73)) : Option (Int × (List (S73))) := spec_l7Copy.l0 k 0 a0_0 l0_1 a0_0 ([] : List (S73))
theorem spec_l7Copy.mono_l : ∀ k, (∀ y0 y1 y2 y3 y4, LeO (spec_l7Copy.l0 k y0 y1 y2 y3 y4) (spec_l7Copy.l0 (k + 1) y0 y1 y2 y3 y4))
 | 0 => fun _ _ _ _ _ r h => by simp [spec_l7Copy.l0] at h
 | k + 1 => by
  have ih0 := spec_l7Copy.mono_l k
  ·intro y0 y1 y2 y3 y4
   unfold spec_l7Copy.l0
   repeat' first
   | (with_reducible exact ih0 _ _ _ _ _)
   | (with_reducible exact LeO.refl _)
   | (with_reducible exact LeO.none _)
   | (with_reducible refine LeO.ite ?_ ?_)
   | (with_reducible refine LeO.bind ?_ (fun _ => ?_))
   | exact ih0 _ _ _ _ _
   | exact LeO.none _
   | refine LeO.ite ?_ ?_
   | refine LeO.bind ?_ (fun _ => ?_)
theorem spec_l7Copy.mono : ∀ a0 a1 k, LeO (spec_l7Copy.f k a0 a1) (spec_l7Copy.f (k + 1) a0 a1) := by
 intro a0 a1 k
 have ih0 := spec_l7Copy.mono_l k
 unfold spec_l7Copy.f
 repeat' first
   | (with_reducible exact ih0 _ _ _ _ _)
   | (with_reducible exact LeO.refl _)
   | (with_reducible exact LeO.none _)
   | (with_reducible refine LeO.ite ?_ ?_)
   | (with_reducible refine LeO.bind ?_ (fun _ => ?_))
   | exact ih0 _ _ _ _ _
   | exact LeO.none _
   | refine LeO.ite ?_ ?_
   | refine LeO.bind ?_ (fun _ => ?_)
def spec_l7Copy.T5 : Bool × List (List Nat × List Nat) := (true, [([], []), ([0], [0]), ([], []), ([2], [2]), ([], []), ([3, 4], [3, 4]), ([5], [5]), ([6], [6]), ([1, 7], [1, 7]), ([0, 1, 2, 3, 4, 5, 6, 7, 8], []), ([9, 8, 8, 0, 1, 2, 3, 4, 5, 6, 7, 8], [8, 9])])
def spec_l7Copy.B5 : List Nat := [0, 1, 0, 4, 0, 28, 60, 124, 255, 511, 1023]
theorem spec_l7Copy.tab5 : rtab .any (opsOf Try.f37 5) = spec_l7Copy.T5 := by kernel_rfl
theorem spec_l7Copy.bits5 : waitsOk spec_l7Copy.T5.2 spec_l7Copy.B5 = true := by kernel_rfl
set_option maxHeartbeats 8000000 in
set_option maxRecDepth 100000 in
theorem spec_l7Copy.calls (k : Nat) (a0_0 : Int) (A0_1 : Option Addr) (c0_1 : Nat) (l0_1 : List (S73)) (r1 : Int) (r2 : List (S73)) (w : World) (hr0_1 : Kd.C k73 w A0_1 l0_1.length l0_1) (hc0_1 : l0_1.length ≤ c0_1) (h : spec_l7Copy.f k a0_0 l0_1 = some (r1, r2)) :
  Calls Try.prog 37 #[.agg #[.int .i64 a0_0, .slice A0_1 l0_1.length c0_1]] w fun e w' => ∃ v1_ : Value, e = .returned (.agg #[.int .i64 r1, v1_]) ∧ Kd.R k73 73 w' w.heap.size (fun _ => True) v1_ r2 ∧ Below w.heap.size w w' := by
 have hu36 := Try.underlying36
 have hu73 := Try.underlying73
 have HR0_1 := Yj hr0_1
 have HC0_1 := Yj hc0_1
 clear hr0_1 hc0_1
 have HB := Yj (Below.refl w.heap.size w)
 have H : (spec_l7Copy.l0 k 0 a0_0 l0_1 a0_0 ([] : List (S73))) = some (r1, r2) := h
 clear h
 have H' := Yj H
 clear H
 go_enter Try.func37, Try.ntmps37
 go_wp2_with (first | ((with_reducible refine gate_dst (N := 1) rfl ?_); refine box_event ?hg (N := 1) ?hd (cs := #[.int .i64 a0_0, .slice A0_1 l0_1.length c0_1]) (t := 36) ?hr ?_; (case hd => rfl); (case hg => rfl); (case hr => first | (go_simp; done) | (go_simp; rfl)); intro gb199 hg w2 hbox hb; have n0_ := Yj (below_step (by repeat (first | (with_reducible first | exact HB.out | apply Yf | apply Yg | apply Yh) | exact HB.out)) hb); have n1_ := Yj (hbox); have n2_ := Yj ((by rw [hg]; exact (below_size (by repeat (first | (with_reducible first | exact HB.out | apply Yf | apply Yg | apply Yh) | exact HB.out))) : w.heap.size ≤ gb199)); have n3_ := Yj ((by rw [hg]; exact (below_size (by repeat (first | (with_reducible first | exact HB.out | apply Yf | apply Yg | apply Yh) | exact HB.out))) : w.heap.size ≤ gb199)); clear HB; have HB := n0_; have BK199 := n1_; have GW199 := n2_; have GE199 := n3_; clear n0_ n1_ n2_ n3_; clear hb hbox hg) | ((with_reducible refine gate_dst (N := 2) rfl ?_); refine box_event ?hg (N := 2) ?hd (cs := #[.int .i64 0, .slice none 0 0]) (t := 36) ?hr ?_; (case hd => rfl); (case hg => rfl); (case hr => first | (go_simp; done) | (go_simp; rfl)); intro gb200 hg w3 hbox hb; have n0_ := Yj (blk_below (g := gb199) (o := .cells #[.int .i64 a0_0, .slice A0_1 l0_1.length c0_1] 36 (0, 0)) (by (with_reducible repeat (first | refine Ya ?_ _ | refine Yb ?_ | refine Yc ?_ _)); exact BK199.out) hb); have n1_ := Yj (below_step (by repeat (first | (with_reducible first | exact HB.out | apply Yf | apply Yg | apply Yh | refine Yi ?_ GE199.out) | exact HB.out)) hb); have n2_ := Yj (hbox); have n3_ := Yj ((by rw [hg]; exact (below_size (by repeat (first | (with_reducible first | exact HB.out | apply Yf | apply Yg | apply Yh | refine Yi ?_ GE199.out) | exact HB.out))) : w.heap.size ≤ gb200)); have n4_ := Yj ((by rw [hg]; exact (below_size (by repeat (first | (with_reducible first | exact HB.out | apply Yf | apply Yg | apply Yh | refine Yi ?_ GE199.out) | exact HB.out))) : w.heap.size ≤ gb200)); have n5_ := Yj ((by rw [hg]; exact Nat.ne_of_lt (blk_lt (g := gb199) (o := .cells #[.int .i64 a0_0, .slice A0_1 l0_1.length c0_1] 36 (0, 0)) (by (with_reducible repeat (first | refine Ya ?_ _ | refine Yb ?_ | refine Yc ?_ _)); exact BK199.out)) : gb199 ≠ gb200)); have n6_ := Yj ((by rw [hg]; exact Nat.ne_of_gt (blk_lt (g := gb199) (o := .cells #[.int .i64 a0_0, .slice A0_1 l0_1.length c0_1] 36 (0, 0)) (by (with_reducible repeat (first | refine Ya ?_ _ | refine Yb ?_ | refine Yc ?_ _)); exact BK199.out)) : gb200 ≠ gb199)); clear BK199; clear HB; have BK199 := n0_; have HB := n1_; have BK200 := n2_; have GW200 := n3_; have GE200 := n4_; have NB199_200 := n5_; have NB200_199 := n6_; clear n0_ n1_ n2_ n3_ n4_ n5_ n6_; clear hb hbox hg; have hnb4 := NB199_200.out; have hnc4 := NB200_199.out; have hcz5_0 : w3.cell? ⟨gb199, 0, none⟩ = some (.int .i64 a0_0) := (Yd BK199.out 0).trans rfl; have hcz5_1 : w3.cell? ⟨gb199, 1, none⟩ = some (.slice A0_1 l0_1.length c0_1) := (Yd BK199.out 1).trans rfl; have hfz5_0 := Ye BK199.out 0; have hfz5_1 := Ye BK199.out 1) | ((with_reducible refine gate_dst (N := 3) rfl ?_); refine box_event ?hg (N := 3) ?hd (cs := #[.int .i64 0, .slice none 0 0]) (t := 36) ?hr ?_; (case hd => rfl); (case hg => rfl); (case hr => first | (go_simp; done) | (go_simp; rfl)); intro gb201 hg w6 hbox hb; have n0_ := Yj (blk_below (g := gb199) (o := .cells #[.int .i64 a0_0, .slice A0_1 l0_1.length c0_1] 36 (0, 0)) (by (with_reducible repeat (first | refine Ya ?_ _ | refine Yb ?_ | refine Yc ?_ _)); exact BK199.out) hb); have n1_ := Yj (blk_below (g := gb200) (o := .cells #[.int .i64 0, .slice none 0 0] 36 (0, 0)) (by (with_reducible repeat (first | refine Ya ?_ _ | refine Yb ?_ | refine Yc ?_ _)); exact BK200.out) hb); have n2_ := Yj (below_step (by repeat (first | (with_reducible first | exact HB.out | apply Yf | apply Yg | apply Yh | refine Yi ?_ GE199.out | refine Yi ?_ GE200.out) | exact HB.out)) hb); have n3_ := Yj (hbox); have n4_ := Yj ((by rw [hg]; exact (below_size (by repeat (first | (with_reducible first | exact HB.out | apply Yf | apply Yg | apply Yh | refine Yi ?_ GE199.out | refine Yi ?_ GE200.out) | exact HB.out))) : w.heap.size ≤ gb201)); have n5_ := Yj ((by rw [hg]; exact (below_size (by repeat (first | (with_reducible first | exact HB.out | apply Yf | apply Yg | apply Yh | refine Yi ?_ GE199.out | refine Yi ?_ GE200.out) | exact HB.out))) : w.heap.size ≤ gb201)); have n6_ := Yj ((by rw [hg]; exact Nat.ne_of_lt (blk_lt (g := gb199) (o := .cells #[.int .i64 a0_0, .slice A0_1 l0_1.length c0_1] 36 (0, 0)) (by (with_reducible repeat (first | refine Ya ?_ _ | refine Yb ?_ | refine Yc ?_ _)); exact BK199.out)) : gb199 ≠ gb201)); have n7_ := Yj ((by rw [hg]; exact Nat.ne_of_gt (blk_lt (g := gb199) (o := .cells #[.int .i64 a0_0, .slice A0_1 l0_1.length c0_1] 36 (0, 0)) (by (with_reducible repeat (first | refine Ya ?_ _ | refine Yb ?_ | refine Yc ?_ _)); exact BK199.out)) : gb201 ≠ gb199)); have n8_ := Yj ((by rw [hg]; exact Nat.ne_of_lt (blk_lt (g := gb200) (o := .cells #[.int .i64 0, .slice none 0 0] 36 (0, 0)) (by (with_reducible repeat (first | refine Ya ?_ _ | refine Yb ?_ | refine Yc ?_ _)); exact BK200.out)) : gb200 ≠ gb201)); have n9_ := Yj ((by rw [hg]; exact Nat.ne_of_gt (blk_lt (g := gb200) (o := .cells #[.int .i64 0, .slice none 0 0] 36 (0, 0)) (by (with_reducible repeat (first | refine Ya ?_ _ | refine Yb ?_ | refine Yc ?_ _)); exact BK200.out)) : gb201 ≠ gb200)); clear BK199; clear BK200; clear HB; have BK199 := n0_; have BK200 := n1_; have HB := n2_; have BK201 := n3_; have GW201 := n4_; have GE201 := n5_; have NB199_201 := n6_; have NB201_199 := n7_; have NB200_201 := n8_; have NB201_200 := n9_; clear n0_ n1_ n2_ n3_ n4_ n5_ n6_ n7_ n8_ n9_; clear hb hbox hg; have hnb7 := NB201_199.out; have hnc7 := NB199_201.out; have hnb8 := NB201_200.out; have hnc8 := NB200_201.out; have hcz9_0 : w6.cell? ⟨gb201, 0, none⟩ = some (.int .i64 0) := (Yd BK201.out 0).trans rfl; have hcz9_1 : w6.cell? ⟨gb201, 1, none⟩ = some (.slice none 0 0) := (Yd BK201.out 1).trans rfl; have hfz9_0 := Ye BK201.out 0; have hfz9_1 := Ye BK201.out 1))
 go_loopg [4] k (fun kq v4 w' => ∃ (x4_1 : Int) (x202001_1 : List (S73)) (u202001 : Value), v4 = .int .i64 x4_1 ∧ Aside0 (spec_l7Copy.l0 kq x4_1 a0_0 l0_1 a0_0 x202001_1 = some (r1, r2)) ∧ Aside0 (kq ≤ k) ∧ Aside0 (Kd.R k73 73 w' w.heap.size (fun _ => True) u202001 x202001_1) ∧ Aside0 (w'.heap[gb199]? = some (.cells #[.int .i64 a0_0, (.slice A0_1 l0_1.length c0_1)] 36 (0, 0))) ∧ Aside0 (w'.heap[gb200]? = some (.cells #[.int .i64 0, (.slice none 0 0)] 36 (0, 0))) ∧ Aside0 (w'.heap[gb201]? = some (.cells #[.int .i64 a0_0, u202001] 36 (0, 0))) ∧ Aside0 (Below w.heap.size w w'))
 case atStart => exact ⟨(0), (([] : List (S73))), (.slice none 0 0), (by first | rfl | (simp; done) | (simp [*]; done)), H', ⟨Nat.le_refl _⟩, ⟨by first | exact Kd.R_nil _ _ _ _ _ | exact Kd.N_nil _ _ _ _ _ | exact Kd.V_nil _ _ _ _ _ | exact Kd.Q_nil _ _ _ _ _ | exact Kd.S_nil _ _ _ _ _⟩, ⟨by (with_reducible repeat (first | refine Ya ?_ _ | refine Yb ?_ | refine Yc ?_ _)); refine blk_far ?_ NB199_201.out _; (with_reducible repeat (first | refine Ya ?_ _ | refine Yb ?_ | refine Yc ?_ _)); refine blk_far ?_ NB199_201.out _; (with_reducible repeat (first | refine Ya ?_ _ | refine Yb ?_ | refine Yc ?_ _)); exact BK199.out⟩, ⟨by (with_reducible repeat (first | refine Ya ?_ _ | refine Yb ?_ | refine Yc ?_ _)); refine blk_far ?_ NB200_201.out _; (with_reducible repeat (first | refine Ya ?_ _ | refine Yb ?_ | refine Yc ?_ _)); refine blk_far ?_ NB200_201.out _; (with_reducible repeat (first | refine Ya ?_ _ | refine Yb ?_ | refine Yc ?_ _)); exact BK200.out⟩, ⟨by (with_reducible repeat (first | refine Ya ?_ _ | refine Yb ?_ | refine Yc ?_ _)); refine blk_put (cs := #[.int .i64 a0_0, .slice none 0 0]) ?_ 1 _ rfl; (with_reducible repeat (first | refine Ya ?_ _ | refine Yb ?_ | refine Yc ?_ _)); refine blk_put (cs := #[.int .i64 0, .slice none 0 0]) ?_ 0 _ rfl; (with_reducible repeat (first | refine Ya ?_ _ | refine Yb ?_ | refine Yc ?_ _)); exact BK201.out⟩, ⟨by repeat (first | (with_reducible first | exact HB.out | apply Yf | apply Yg | apply Yh | refine Yi ?_ GE199.out | refine Yi ?_ GE200.out | refine Yi ?_ GE201.out) | exact HB.out)⟩⟩
 case round =>
  clear H'
  try clear p2
  try clear c3
  try clear c4
  try clear c7
  try clear c8
  try clear hcz5_0
  try clear hcz5_1
  try clear hcz9_0
  try clear hcz9_1
  try clear hfz5_0
  try clear hfz5_1
  try clear hfz9_0
  try clear hfz9_1
  obtain ⟨x4_1, x202001_1, u202001, rfl, HA, HK1, HO_202001, BK199, BK200, BK201, HB⟩ := hrel
  cases gk with
  | zero => exact absurd HA.out (by simp [spec_l7Copy.l0])
  | succ k1 =>
   have H := HA.out
   clear HA
   simp only [spec_l7Copy.l0] at H
   by_cases c10 : x4_1 < (l0_1.length : Int)
   ·rw [if_pos c10] at H
    have c10b0 : decide (x4_1 < (l0_1.length : Int)) = true := decide_eq_true c10
    clear c10
    by_cases c11 : 0 ≤ x4_1
    ·rw [if_pos c11] at H
     have c11b0 : decide (0 ≤ x4_1) = true := decide_eq_true c11
     clear c11
     by_cases c12 : x202001_1.length < 8796093022208
     ·rw [if_pos c12] at H
      have LMc12 := Yj c12
      clear c12
      obtain ⟨y203, hy203⟩ : ∃ y_ : List (S73), y_ = (x202001_1 ++ [(⟨(rd_T73 l0_1 x4_1).f0, (rd_T73 l0_1 x4_1).f1⟩ : S73)]) := ⟨_, rfl⟩
      replace H : (spec_l7Copy.l0 k1 (wrap64 (x4_1 + 1)) a0_0 l0_1 a0_0 y203) = some (r1, r2) := by first | (rw [hy203]; with_reducible exact H) | (have H2_ := (Option.bind_some _ _).symm.trans H; rw [hy203]; with_reducible exact H2_) | (have H2_ := (Option.bind_some _ _).symm.trans H; with_reducible exact H2_) | with_reducible exact H | (rw [hy203]; exact H) | exact H
      have Ny203 := Yj hy203
      clear hy203
      have H' := Yj H
      clear H
      have hnb13 := NB199_200.out
      have hnc13 := NB200_199.out
      have hnb14 := NB199_201.out
      have hnc14 := NB201_199.out
      have hcz15_0 : wr.cell? ⟨gb199, 0, none⟩ = some (.int .i64 a0_0) := (Yd BK199.out 0).trans rfl
      have hcz15_1 : wr.cell? ⟨gb199, 1, none⟩ = some (.slice A0_1 l0_1.length c0_1) := (Yd BK199.out 1).trans rfl
      have hfz15_0 := Ye BK199.out 0
      have hfz15_1 := Ye BK199.out 1
      try go_wp2
      have n0_ := Yj (Kd.R_drew HO_202001.out)
      have n1_ := Yj (Yb BK199.out)
      have n2_ := Yj (Yb BK200.out)
      have n3_ := Yj (Yb BK201.out)
      have n4_ := Yj (Yh HB.out)
      clear HO_202001
      clear BK199
      clear BK200
      clear BK201
      clear HB
      have HO_202001 := n0_
      have BK199 := n1_
      have BK200 := n2_
      have BK201 := n3_
      have HB := n4_
      clear n0_ n1_ n2_ n3_ n4_
      have p202 : 0 ≤ (x4_1 : Int) := of_decide_eq_true (by first | (with_reducible assumption) | assumption)
      have q202 : x4_1 < (l0_1.length : Int) := of_decide_eq_true (by first | (with_reducible assumption) | assumption)
      obtain ⟨ad202, e202, hx202_0, hx202_1⟩ := at_T73 HR0_1.out x4_1 p202 q202
      have hw202_1 := hx202_1
      have hw202_0 := hx202_0
      cases e202
      replace hx202_0 := (HB.out.cell (Yl w _ hx202_0)).trans hx202_0
      replace hx202_1 := (HB.out.cell (Yl w _ hx202_1)).trans hx202_1
      replace p202 := eq_true p202
      replace q202 := eq_true q202
      refine start_ (n := 11) (S := fun w' => w'.cell? ⟨gb201, 0, none⟩ = some (.int .i64 a0_0) ∧ w'.cell? ⟨gb201, 1, none⟩ = some (u202001) ∧ w'.cell? ⟨gb199, 0, none⟩ = some (.int .i64 a0_0) ∧ w'.cell? ⟨gb199, 1, none⟩ = some (.slice (some ad202) l0_1.length c0_1) ∧ w'.cell? (ad202.add ((x4_1).toNat * 2)) = some (.int .i64 ((rd_T73 l0_1 x4_1).f0)) ∧ w'.cell? ⟨(ad202.add ((x4_1).toNat * 2)).block, (ad202.add ((x4_1).toNat * 2)).off + 1, none⟩ = some (.int .i64 ((rd_T73 l0_1 x4_1).f1))) (ds := [10]) #[false, false, false, false, false, false, false, false, false, false, false] (by kernel_rfl) rfl rfl ⟨(Yd BK201.out 0).trans rfl, (Yd BK201.out 1).trans rfl, (Yd BK199.out 0).trans rfl, (Yd BK199.out 1).trans rfl, ((HB.out.cell (Yl w _ hw202_0)).trans hw202_0), ((HB.out.cell (Yl w _ hw202_1)).trans hw202_1)⟩ (fun hHeld => ?_); refine with_tabW spec_l7Copy.tab5 spec_l7Copy.bits5 (fun HT_ HW_ => ?_)
      generalize wr.drew = w16 at HO_202001 BK199 BK200 BK201 HB hx202_0 hx202_1 hHeld ⊢
      refine pure_ (i := 0) (N := some 15) (v := ?_) (a' := ?_) #[true, false, false, false, false, false, false, false, false, false, false] rfl rfl (any_of HT_.out (by kernel_rfl)) (fun _ _ _ h => h) (Or.inl ⟨by rfl, ?_⟩) ?_ ?_
      rotate_left
      ·intro w'
       go_simp
       with_reducible rfl
      rotate_left
      ·simp only [Act.put, List.setIfInBounds_toArray, List.set_cons_zero, List.set_cons_succ, i64_w, i32_w]
       rfl
      refine pure_ (i := 2) (N := some 17) (v := ?_) (a' := ?_) #[true, false, true, false, false, false, false, false, false, false, false] rfl rfl (any_of HT_.out (by kernel_rfl)) (fun _ _ _ h => h) (Or.inl ⟨by rfl, ?_⟩) ?_ ?_
      rotate_left
      ·intro w'
       go_simp
       with_reducible rfl
      rotate_left
      ·simp only [Act.put, List.setIfInBounds_toArray, List.set_cons_zero, List.set_cons_succ, i64_w, i32_w]
       rfl
      refine pure_ (i := 4) (N := some 19) (v := ?_) (a' := ?_) #[true, false, true, false, true, false, false, false, false, false, false] rfl rfl (any_of HT_.out (by kernel_rfl)) (fun _ _ _ h => h) (Or.inl ⟨by rfl, ?_⟩) ?_ ?_
      rotate_left
      ·intro w'
       go_simp
       with_reducible rfl
      rotate_left
      ·simp only [Act.put, List.setIfInBounds_toArray, List.set_cons_zero, List.set_cons_succ, i64_w, i32_w]
       rfl
      refine take_ (i := 1) (N := some 16) (v := ?_) (a' := ?_) #[true, true, true, false, true, false, false, false, false, false, false] rfl rfl (take_ofW HT_.out HW_.out (by kernel_rfl)) (fun _ _ _ h => h) (Or.inl ⟨by rfl, ?_⟩) hHeld ?_ ?_
      rotate_left
      ·rintro w' ⟨s0, s1, s2, s3, s4, s5⟩
       go_simp
       with_reducible rfl
      rotate_left
      ·simp only [Act.put, List.setIfInBounds_toArray, List.set_cons_zero, List.set_cons_succ, i64_w, i32_w]
       rfl
      refine take_ (i := 3) (N := some 18) (v := ?_) (a' := ?_) #[true, true, true, true, true, false, false, false, false, false, false] rfl rfl (take_ofW HT_.out HW_.out (by kernel_rfl)) (fun _ _ _ h => h) (Or.inl ⟨by rfl, ?_⟩) hHeld ?_ ?_
      rotate_left
      ·rintro w' ⟨s0, s1, s2, s3, s4, s5⟩
       go_simp
       with_reducible rfl
      rotate_left
      ·simp only [Act.put, List.setIfInBounds_toArray, List.set_cons_zero, List.set_cons_succ, i64_w, i32_w]
       rfl
      refine pure_ (i := 5) (N := some 20) (v := ?_) (a' := ?_) #[true, true, true, true, true, true, false, false, false, false, false] rfl rfl (any_of HT_.out (by kernel_rfl)) (fun _ _ _ h => h) (Or.inl ⟨by rfl, ?_⟩) ?_ ?_
      rotate_left
      ·intro w'
       go_simp
       with_reducible rfl
      rotate_left
      ·simp only [Act.put, List.setIfInBounds_toArray, List.set_cons_zero, List.set_cons_succ, i64_w, i32_w]
       rfl
      refine take_ (i := 6) (N := some 21) (v := ?_) (a' := ?_) #[true, true, true, true, true, true, true, false, false, false, false] rfl rfl (take_ofW HT_.out HW_.out (by kernel_rfl)) (fun _ _ _ h => h) (Or.inl ⟨by rfl, ?_⟩) hHeld ?_ ?_
      rotate_left
      ·rintro w' ⟨s0, s1, s2, s3, s4, s5⟩
       go_simp
       with_reducible rfl
      rotate_left
      ·simp only [Act.put, List.setIfInBounds_toArray, List.set_cons_zero, List.set_cons_succ, i64_w, i32_w]
       rfl
      refine one_ (i := 7) (N := some 22) #[true, true, true, true, true, true, true, true, false, false, false] rfl rfl (one_of HT_.out (by kernel_rfl)) (by decide) (fun K hK => ?_)
      refine value_ (w1 := ?_) (v := ?_) (by rfl) rfl ?_ ?_
      rotate_left 2
      ·go_simp
       constructor
       ·rfl
       ·rfl
      refine hK.out _ _ ⟨(Yd (Yc BK201.out _) 0).trans rfl, (Yd (Yc BK201.out _) 1).trans rfl, (Yd (Yc BK199.out _) 0).trans rfl, (Yd (Yc BK199.out _) 1).trans rfl, (World.cell?_alloc_lt _ _ _ (Yl _ _ (((HB.out.cell (Yl w _ hw202_0)).trans hw202_0)))).trans (((HB.out.cell (Yl w _ hw202_0)).trans hw202_0)), (World.cell?_alloc_lt _ _ _ (Yl _ _ (((HB.out.cell (Yl w _ hw202_1)).trans hw202_1)))).trans (((HB.out.cell (Yl w _ hw202_1)).trans hw202_1))⟩ (fun hHeld => ?_)
      clear hK K
      refine norm_ (a' := ?_) ?_ ?_
      rotate_left
      ·show Act.put _ (some 22) _ = _
       simp only [Act.put, List.setIfInBounds_toArray, List.set_cons_zero, List.set_cons_succ, i64_w, i32_w]
       rfl
      refine one_ (i := 8) (N := some 23) #[true, true, true, true, true, true, true, true, true, false, false] rfl rfl (one_of HT_.out (by kernel_rfl)) (by decide) (fun K hK => ?_)
      refine Kd.R_append_step k73 (w0 := w) w.heap.size (by rfl) (.tmp 16) (.tmp 22) 34 73 (.agg #[(.int .i64 0), (.int .i64 0)]) 16 rfl Try.underlying34 info73 rfl (by decide) (by omega) u202001 x202001_1 (⟨(rd_T73 l0_1 x4_1).f0, (rd_T73 l0_1 x4_1).f1⟩ : S73) [.int .i64 ((rd_T73 l0_1 x4_1).f0), .int .i64 ((rd_T73 l0_1 x4_1).f1)] (fun _ => True) (fun _ => False) rfl rfl ?aP (fun _ hk => hk.elim) ?aF ?aO ?aB ?aS ?aL ?_
      (case aP => exact k73_mkM _ _ _ (⟨(rd_T73 l0_1 x4_1).f0, (rd_T73 l0_1 x4_1).f1⟩ : S73))
      (case aB => exact (by repeat (first | (with_reducible first | exact HB.out | apply Yf | apply Yg | apply Yh | refine Yi ?_ GE199.out | refine Yi ?_ GE200.out | refine Yi ?_ GE201.out) | exact HB.out)))
      (case aF => exact (fun _ _ => trivial))
      (case aO => exact (by (with_reducible repeat (first | apply Kd.R_alloc | apply Kd.R_drewN | apply Kd.R_drew)); exact HO_202001.out))
      (case aS => exact (below_size (by repeat (first | (with_reducible first | exact HB.out | apply Yf | apply Yg | apply Yh | refine Yi ?_ GE199.out | refine Yi ?_ GE200.out | refine Yi ?_ GE201.out) | exact HB.out))))
      (case aL => have := LMc12.out; omega)
      intro v204 w17 ho hb hg hat
      rw [← Ny203.out] at ho
      have n0_ := Yj (blk_grown (g := gb199) (o := .cells #[.int .i64 a0_0, .slice (some ad202) l0_1.length c0_1] 36 (0, 0)) (by (with_reducible repeat (first | refine Ya ?_ _ | refine Yb ?_ | refine Yc ?_ _)); exact BK199.out) hg (Kd.R_ne HO_202001.out BK199.out (by decide)))
      have n1_ := Yj (blk_grown (g := gb200) (o := .cells #[.int .i64 0, .slice none 0 0] 36 (0, 0)) (by (with_reducible repeat (first | refine Ya ?_ _ | refine Yb ?_ | refine Yc ?_ _)); exact BK200.out) hg (Kd.R_ne HO_202001.out BK200.out (by decide)))
      have n2_ := Yj (blk_grown (g := gb201) (o := .cells #[.int .i64 a0_0, u202001] 36 (0, 0)) (by (with_reducible repeat (first | refine Ya ?_ _ | refine Yb ?_ | refine Yc ?_ _)); exact BK201.out) hg (Kd.R_ne HO_202001.out BK201.out (by decide)))
      have n3_ := Yj (hb)
      have n4_ := Yj (ho)
      clear BK199
      clear BK200
      clear BK201
      clear HB
      clear HO_202001
      have BK199 := n0_
      have BK200 := n1_
      have BK201 := n2_
      have HB := n3_
      have HO205 := n4_
      clear n0_ n1_ n2_ n3_ n4_
      clear ho hb hg hat
      obtain ⟨Ao18, co18, eo18⟩ := Kd.R_slice HO205.out
      (first | subst eo18 | (injection eo18 with f1_ f2_ f3_; have f4_ := f1_.symm; have f5_ := f3_.symm; clear f1_ f2_ f3_; subst f4_; subst f5_))
      refine hK.out _ _ ⟨(Yd BK201.out 0).trans rfl, (Yd BK201.out 1).trans rfl, (Yd BK199.out 0).trans rfl, (Yd BK199.out 1).trans rfl, ((HB.out.cell (Yl w _ hw202_0)).trans hw202_0), ((HB.out.cell (Yl w _ hw202_1)).trans hw202_1)⟩ (fun hHeld => ?_)
      clear hK K
      refine norm_ (a' := ?_) ?_ ?_
      rotate_left
      ·show Act.put _ (some 23) _ = _
       simp only [Act.put, List.setIfInBounds_toArray, List.set_cons_zero, List.set_cons_succ, i64_w, i32_w]
       rfl
      refine pure_ (i := 9) (N := some 24) (v := ?_) (a' := ?_) #[true, true, true, true, true, true, true, true, true, true, false] rfl rfl (any_of HT_.out (by kernel_rfl)) (fun _ _ _ h => h) (Or.inl ⟨by rfl, ?_⟩) ?_ ?_
      rotate_left
      ·intro w'
       go_simp
       with_reducible rfl
      rotate_left
      ·simp only [Act.put, List.setIfInBounds_toArray, List.set_cons_zero, List.set_cons_succ, i64_w, i32_w]
       rfl
      refine last_ (i := 10) (N := none) #[true, true, true, true, true, true, true, true, true, true, true] rfl rfl (one_of HT_.out (by kernel_rfl)) (by decide) (fun K hK => ?_)
      have hs19 : w17.cell? ⟨gb201, 1, none⟩ = some (u202001) := (Yd BK201.out 1).trans rfl
      have hfs19 := Ye BK201.out 1
      have hns19_0 := NB199_201.out
      have hns19_1 := NB200_201.out
      have hms19_0 := NB201_199.out
      have hms19_1 := NB201_200.out
      refine skip_ (w1 := ?_) (by rfl) rfl ?_ ?_
      rotate_left
      ·go_simp
       rfl
      refine hK.out _ _ ?_
      clear hK K
      refine done_ (done_of HT_.out (by kernel_rfl)) ?_
      try go_wp2
      go_roundg k1
      case measure => have := HK1.out; omega
      case rel => exact ⟨(wrap64 (x4_1 + 1)), (y203), (.slice Ao18 y203.length co18), (by first | rfl | (simp; done) | (simp [*]; done)), H', ⟨by have := HK1.out; omega⟩, ⟨by (with_reducible repeat (first | apply Kd.R_alloc | apply Kd.R_drewN | apply Kd.R_drew)); exact Kd.R_mono (Kd.R_far (p := ⟨gb201, 1, none⟩) (Kd.R_types HO205.out BK201.out (by decide)) (fun _ hk => hk.2) (.slice Ao18 y203.length co18)) (fun _ hk => trivial)⟩, ⟨by (with_reducible repeat (first | refine Ya ?_ _ | refine Yb ?_ | refine Yc ?_ _)); refine blk_far ?_ NB199_201.out _; (with_reducible repeat (first | refine Ya ?_ _ | refine Yb ?_ | refine Yc ?_ _)); exact BK199.out⟩, ⟨by (with_reducible repeat (first | refine Ya ?_ _ | refine Yb ?_ | refine Yc ?_ _)); refine blk_far ?_ NB200_201.out _; (with_reducible repeat (first | refine Ya ?_ _ | refine Yb ?_ | refine Yc ?_ _)); exact BK200.out⟩, ⟨by (with_reducible repeat (first | refine Ya ?_ _ | refine Yb ?_ | refine Yc ?_ _)); refine blk_put (cs := #[.int .i64 a0_0, u202001]) ?_ 1 _ rfl; (with_reducible repeat (first | refine Ya ?_ _ | refine Yb ?_ | refine Yc ?_ _)); exact BK201.out⟩, ⟨by repeat (first | (with_reducible first | exact HB.out | apply Yf | apply Yg | apply Yh | refine Yi ?_ GE199.out | refine Yi ?_ GE200.out | refine Yi ?_ GE201.out) | exact HB.out)⟩⟩
     ·rw [if_neg c12] at H
      exact absurd H (by simp)
    ·rw [if_neg c11] at H
     exact absurd H (by simp)
   ·rw [if_neg c10] at H
    have c10b0 : decide (x4_1 < (l0_1.length : Int)) = false := decide_eq_false c10
    clear c10
    simp only [Option.some.injEq, Prod.mk.injEq] at H
    obtain ⟨rfl, rfl⟩ := H
    have hnb20 := NB199_200.out
    have hnc20 := NB200_199.out
    have hnb21 := NB199_201.out
    have hnc21 := NB201_199.out
    have hcz22_0 : wr.cell? ⟨gb199, 0, none⟩ = some (.int .i64 a0_0) := (Yd BK199.out 0).trans rfl
    have hcz22_1 : wr.cell? ⟨gb199, 1, none⟩ = some (.slice A0_1 l0_1.length c0_1) := (Yd BK199.out 1).trans rfl
    have hfz22_0 := Ye BK199.out 0
    have hfz22_1 := Ye BK199.out 1
    have hnb23 := NB201_200.out
    have hnc23 := NB200_201.out
    have hcz24_0 : wr.cell? ⟨gb201, 0, none⟩ = some (.int .i64 a0_0) := (Yd BK201.out 0).trans rfl
    have hcz24_1 : wr.cell? ⟨gb201, 1, none⟩ = some (u202001) := (Yd BK201.out 1).trans rfl
    have hfz24_0 := Ye BK201.out 0
    have hfz24_1 := Ye BK201.out 1
    have hcz25_0 : wr.cell? ⟨gb200, 0, none⟩ = some (.int .i64 0) := (Yd BK200.out 0).trans rfl
    have hcz25_1 : wr.cell? ⟨gb200, 1, none⟩ = some (.slice none 0 0) := (Yd BK200.out 1).trans rfl
    have hfz25_0 := Ye BK200.out 0
    have hfz25_1 := Ye BK200.out 1
    obtain ⟨Ao26, co26, eo26⟩ := Kd.R_slice HO_202001.out
    subst eo26
    go_wp2
    refine bodyPost_ret (results_cell_row rfl _ _ gb200 36 #[.int .i64 a0_0, .slice Ao26 x202001_1.length co26] (0, 0) _ rfl (by (with_reducible repeat (first | refine Ya ?_ _ | refine Yb ?_ | refine Yc ?_ _)); refine blk_put (cs := #[.int .i64 a0_0, .slice none 0 0]) ?_ 1 _ rfl; (with_reducible repeat (first | refine Ya ?_ _ | refine Yb ?_ | refine Yc ?_ _)); refine blk_put (cs := #[.int .i64 0, .slice none 0 0]) ?_ 0 _ rfl; (with_reducible repeat (first | refine Ya ?_ _ | refine Yb ?_ | refine Yc ?_ _)); exact BK200.out) Try.underlying36 rfl (by kernel_rfl)) rfl ?_
    exact ⟨_, by first | rfl | (simp [errW_none, errW_some] <;> rfl) | (simp [*, errW_none, errW_some] <;> rfl), by (with_reducible repeat (first | apply Kd.R_alloc | apply Kd.R_drewN | apply Kd.R_drew)); exact Kd.R_mono (Kd.R_far (p := ⟨gb200, 1, none⟩) (Kd.R_far (p := ⟨gb200, 0, none⟩) (Kd.R_types HO_202001.out BK200.out (by decide)) (fun _ hk => hk.2) (.int .i64 a0_0)) (fun _ hk => hk.2) (.slice Ao26 x202001_1.length co26)) (fun _ hk => trivial), by repeat (first | (with_reducible first | exact HB.out | apply Yf | apply Yg | apply Yh | refine Yi ?_ GE199.out | refine Yi ?_ GE200.out | refine Yi ?_ GE201.out) | exact HB.out)⟩

/-! ### spec_DrawSameEdges: function 11 -/
def spec_DrawSameEdges.j0 : Nat → Int → Bool → List Int → Int → Int → List (S73) → Option (Int × (List (S73)) × Int × Int)
 | 0, _, _, _, _, _, _ => none
 | k + 1, x7, x40, x210000, x210001, x216000, x216001 => if x40 = true then ((spec_l40Rd_pick.f k x210000 x210001 x216000).bind fun bt222 => ((spec_l7Copy.f k x216000 x216001).bind fun bt224 => ((spec_l7Pick.f bt224.1 bt224.2 (wrap64 (2 * (wrap64 (1 + bt222.1)))) x7 x7).bind fun bt228 => ((spec_l7And.f k bt228.1 bt228.2.1 bt228.2.2 (wrap64 (2 * (wrap64 (1 + bt222.1))))).bind fun bt234 => ((spec_l7And.f k bt234.1 bt234.2.1 bt228.2.2 (wrap64 ((wrap64 (2 * (wrap64 (1 + bt222.1)))) + 1))).bind fun bt240 => ((spec_l7Or.f k bt240.1 bt240.2.1 bt234.2.2 bt240.2.2).bind fun bt246 => (some (bt246.1, bt246.2.1, x7, bt246.2.2)))))))) else ((spec_l7Some.f k x210000 x210001 x216000 x216001).bind fun bt252 => (some (x216000, x216001, x7, bt252.1)))
def spec_DrawSameEdges.f (k : Nat) (l0 : List Int) : Option (Int × (List (S73)) × Int × Int) := (spec_l40Open.f l0).bind fun bt207 => ((spec_l7Any.f k bt207.1 bt207.2 5).bind fun bt210 => ((spec_l7Some.f k bt207.1 bt210.2.2 bt210.1 bt210.2.1).bind fun bt216 => ((spec_CircuitValid.f k bt210.1 bt210.2.1).bind fun t218 => (if t218 = true then ((spec_l7Edge.f bt210.1 bt210.2.1 bt216.1).bind fun t219 => (if t219 = true then (if bt210.1 > 0 then ((spec_l40Rd_pick.f k bt207.1 bt216.2 2).bind fun bt220 => (spec_DrawSameEdges.j0 k bt216.1 (bt220.1 == 0) bt207.1 bt220.2 bt210.1 bt210.2.1)) else (spec_DrawSameEdges.j0 k bt216.1 false bt207.1 bt216.2 bt210.1 bt210.2.1)) else (spec_DrawSameEdges.j0 k bt216.1 false bt207.1 bt216.2 bt210.1 bt210.2.1))) else (spec_DrawSameEdges.j0 k bt216.1 false bt207.1 bt216.2 bt210.1 bt210.2.1)))))
theorem spec_DrawSameEdges.mono_l : ∀ k, (∀ y0 y1 y2 y3 y4 y5, LeO (spec_DrawSameEdges.j0 k y0 y1 y2 y3 y4 y5) (spec_DrawSameEdges.j0 (k + 1) y0 y1 y2 y3 y4 y5))
 | 0 => fun _ _ _ _ _ _ r h => by simp [spec_DrawSameEdges.j0] at h
 | k + 1 => by
  have ih0 := spec_DrawSameEdges.mono_l k
  ·intro y0 y1 y2 y3 y4 y5
   unfold spec_DrawSameEdges.j0
   repeat' first
   | (with_reducible exact ih0 _ _ _ _ _ _)
   | (with_reducible exact spec_CircuitValid.mono _ _ _)
   | (with_reducible exact spec_l40Rd_pick.mono _ _ _ _)
   | (with_reducible exact spec_l7And.mono _ _ _ _ _)
   | (with_reducible exact spec_l7Any.mono _ _ _ _)
   | (with_reducible exact spec_l7Copy.mono _ _ _)
   | (with_reducible exact spec_l7Or.mono _ _ _ _ _)
   | (with_reducible exact spec_l7Some.mono _ _ _ _ _)
   | (with_reducible exact LeO.refl _)
   | (with_reducible exact LeO.none _)
   | (with_reducible refine LeO.ite ?_ ?_)
   | (with_reducible refine LeO.bind ?_ (fun _ => ?_))
   | exact ih0 _ _ _ _ _ _
   | exact spec_CircuitValid.mono _ _ _
   | exact spec_l40Rd_pick.mono _ _ _ _
   | exact spec_l7And.mono _ _ _ _ _
   | exact spec_l7Any.mono _ _ _ _
   | exact spec_l7Copy.mono _ _ _
   | exact spec_l7Or.mono _ _ _ _ _
   | exact spec_l7Some.mono _ _ _ _ _
   | exact LeO.none _
   | refine LeO.ite ?_ ?_
   | refine LeO.bind ?_ (fun _ => ?_)
theorem spec_DrawSameEdges.mono : ∀ a0 k, LeO (spec_DrawSameEdges.f k a0) (spec_DrawSameEdges.f (k + 1) a0) := by
 intro a0 k
 have ih0 := spec_DrawSameEdges.mono_l k
 unfold spec_DrawSameEdges.f
 repeat' first
   | (with_reducible exact ih0 _ _ _ _ _ _)
   | (with_reducible exact spec_CircuitValid.mono _ _ _)
   | (with_reducible exact spec_l40Rd_pick.mono _ _ _ _)
   | (with_reducible exact spec_l7And.mono _ _ _ _ _)
   | (with_reducible exact spec_l7Any.mono _ _ _ _)
   | (with_reducible exact spec_l7Copy.mono _ _ _)
   | (with_reducible exact spec_l7Or.mono _ _ _ _ _)
   | (with_reducible exact spec_l7Some.mono _ _ _ _ _)
   | (with_reducible exact LeO.refl _)
   | (with_reducible exact LeO.none _)
   | (with_reducible refine LeO.ite ?_ ?_)
   | (with_reducible refine LeO.bind ?_ (fun _ => ?_))
   | exact ih0 _ _ _ _ _ _
   | exact spec_CircuitValid.mono _ _ _
   | exact spec_l40Rd_pick.mono _ _ _ _
   | exact spec_l7And.mono _ _ _ _ _
   | exact spec_l7Any.mono _ _ _ _
   | exact spec_l7Copy.mono _ _ _
   | exact spec_l7Or.mono _ _ _ _ _
   | exact spec_l7Some.mono _ _ _ _ _
   | exact LeO.none _
   | refine LeO.ite ?_ ?_
   | refine LeO.bind ?_ (fun _ => ?_)
def spec_DrawSameEdges.T11 : Bool × List (List Nat × List Nat) := (true, [([], []), ([], []), ([], []), ([], []), ([2, 3], [2, 3]), ([0, 4, 0], [0]), ([1, 5, 0, 1, 5], [1]), ([4, 6, 0, 1, 2, 3, 4, 5, 6], [4])])
def spec_DrawSameEdges.B11 : List Nat := [0, 0, 0, 0, 12, 29, 63, 127]
theorem spec_DrawSameEdges.tab11 : rtab .any (opsOf Try.f11 11) = spec_DrawSameEdges.T11 := by kernel_rfl
theorem spec_DrawSameEdges.bits11 : waitsOk spec_DrawSameEdges.T11.2 spec_DrawSameEdges.B11 = true := by kernel_rfl
set_option maxHeartbeats 8000000 in
set_option maxRecDepth 100000 in
theorem spec_DrawSameEdges.calls (k : Nat) (A0 : Option Addr) (c0 : Nat) (l0 : List Int) (r1 : Int) (r2 : List (S73)) (r3 : Int) (r4 : Int) (w : World) (hr0 : Kd.C (Kd.int .u8) w A0 l0.length l0) (hc0 : l0.length ≤ c0) (h : spec_DrawSameEdges.f k l0 = some (r1, r2, r3, r4)) :
  Calls Try.prog 11 #[.slice A0 l0.length c0] w fun e w' => ∃ v1_ : Value, e = .returned (.tuple #[.agg #[.int .i64 r1, v1_], .int .i64 r3, .int .i64 r4]) ∧ Kd.R k73 73 w' w.heap.size (fun _ => True) v1_ r2 ∧ Below w.heap.size w w' := by
 have hu36 := Try.underlying36
 have HR0 := Yj hr0
 have HC0 := Yj hc0
 clear hr0 hc0
 have HB := Yj (Below.refl w.heap.size w)
 have H : ((spec_l40Open.f l0).bind fun bt207 => ((spec_l7Any.f k bt207.1 bt207.2 5).bind fun bt210 => ((spec_l7Some.f k bt207.1 bt210.2.2 bt210.1 bt210.2.1).bind fun bt216 => ((spec_CircuitValid.f k bt210.1 bt210.2.1).bind fun t218 => (if t218 = true then ((spec_l7Edge.f bt210.1 bt210.2.1 bt216.1).bind fun t219 => (if t219 = true then (if bt210.1 > 0 then ((spec_l40Rd_pick.f k bt207.1 bt216.2 2).bind fun bt220 => (spec_DrawSameEdges.j0 k bt216.1 (bt220.1 == 0) bt207.1 bt220.2 bt210.1 bt210.2.1)) else (spec_DrawSameEdges.j0 k bt216.1 false bt207.1 bt216.2 bt210.1 bt210.2.1)) else (spec_DrawSameEdges.j0 k bt216.1 false bt207.1 bt216.2 bt210.1 bt210.2.1))) else (spec_DrawSameEdges.j0 k bt216.1 false bt207.1 bt216.2 bt210.1 bt210.2.1)))))) = some (r1, r2, r3, r4) := h
 clear h
 replace H := Yk H
 obtain ⟨⟨t207, t208⟩, A20, H⟩ := H
 replace H : ((spec_l7Any.f k t207 t208 5).bind fun bt210 => ((spec_l7Some.f k t207 bt210.2.2 bt210.1 bt210.2.1).bind fun bt216 => ((spec_CircuitValid.f k bt210.1 bt210.2.1).bind fun t218 => (if t218 = true then ((spec_l7Edge.f bt210.1 bt210.2.1 bt216.1).bind fun t219 => (if t219 = true then (if bt210.1 > 0 then ((spec_l40Rd_pick.f k t207 bt216.2 2).bind fun bt220 => (spec_DrawSameEdges.j0 k bt216.1 (bt220.1 == 0) t207 bt220.2 bt210.1 bt210.2.1)) else (spec_DrawSameEdges.j0 k bt216.1 false t207 bt216.2 bt210.1 bt210.2.1)) else (spec_DrawSameEdges.j0 k bt216.1 false t207 bt216.2 bt210.1 bt210.2.1))) else (spec_DrawSameEdges.j0 k bt216.1 false t207 bt216.2 bt210.1 bt210.2.1))))) = some (r1, r2, r3, r4) := H
 have A2 := Yj A20
 clear A20
 replace H := Yk H
 obtain ⟨⟨t210, t211, t214⟩, A30, H⟩ := H
 replace H : ((spec_l7Some.f k t207 t214 t210 t211).bind fun bt216 => ((spec_CircuitValid.f k t210 t211).bind fun t218 => (if t218 = true then ((spec_l7Edge.f t210 t211 bt216.1).bind fun t219 => (if t219 = true then (if t210 > 0 then ((spec_l40Rd_pick.f k t207 bt216.2 2).bind fun bt220 => (spec_DrawSameEdges.j0 k bt216.1 (bt220.1 == 0) t207 bt220.2 t210 t211)) else (spec_DrawSameEdges.j0 k bt216.1 false t207 bt216.2 t210 t211)) else (spec_DrawSameEdges.j0 k bt216.1 false t207 bt216.2 t210 t211))) else (spec_DrawSameEdges.j0 k bt216.1 false t207 bt216.2 t210 t211)))) = some (r1, r2, r3, r4) := H
 have A3 := Yj A30
 clear A30
 replace H := Yk H
 obtain ⟨⟨t216, t217⟩, A40, H⟩ := H
 replace H : ((spec_CircuitValid.f k t210 t211).bind fun t218 => (if t218 = true then ((spec_l7Edge.f t210 t211 t216).bind fun t219 => (if t219 = true then (if t210 > 0 then ((spec_l40Rd_pick.f k t207 t217 2).bind fun bt220 => (spec_DrawSameEdges.j0 k t216 (bt220.1 == 0) t207 bt220.2 t210 t211)) else (spec_DrawSameEdges.j0 k t216 false t207 t217 t210 t211)) else (spec_DrawSameEdges.j0 k t216 false t207 t217 t210 t211))) else (spec_DrawSameEdges.j0 k t216 false t207 t217 t210 t211))) = some (r1, r2, r3, r4) := H
 have A4 := Yj A40
 clear A40
 have HC5 := Yj H
 clear H
 go_enter Try.func11, Try.ntmps11
 go_upto_region 4 with (first | ((with_reducible refine gate_dst (N := 2) rfl ?_); refine box_event ?hg (N := 2) ?hd (cs := #[.int .i64 0, .slice none 0 0]) (t := 36) ?hr ?_; (case hd => rfl); (case hg => rfl); (case hr => first | (go_simp; done) | (go_simp; rfl)); intro gb206 hg w6 hbox hb; have n0_ := Yj (below_step (by repeat (first | (with_reducible first | exact HB.out | apply Yf | apply Yg | apply Yh) | exact HB.out)) hb); have n1_ := Yj (hbox); have n2_ := Yj ((by rw [hg]; exact (below_size (by repeat (first | (with_reducible first | exact HB.out | apply Yf | apply Yg | apply Yh) | exact HB.out))) : w.heap.size ≤ gb206)); have n3_ := Yj ((by rw [hg]; exact (below_size (by repeat (first | (with_reducible first | exact HB.out | apply Yf | apply Yg | apply Yh) | exact HB.out))) : w.heap.size ≤ gb206)); clear HB; have HB := n0_; have BK206 := n1_; have GW206 := n2_; have GE206 := n3_; clear n0_ n1_ n2_ n3_; clear hb hbox hg) | ((with_reducible refine gate_callee (f := 31) rfl ?_); refine goesL_ (some 18) rfl rfl Try.func31 (by kernel_rfl) rfl #[.slice A0 l0.length c0] rfl (by (try simp only [List.map_toArray, List.map_cons, List.map_nil]); first | done | rfl | (simp only [List.length_drop, List.length_take]; rfl)) ?_; (with_reducible refine (spec_l40Open.calls _ _ l0 t207 t208 w _ ?side1 ?side2 ?side3 A2.out).mono ?_); (case side1 => repeat (first | (with_reducible first | exact HB.out | apply Yf | apply Yg | apply Yh | refine Yi ?_ GE206.out) | exact HB.out)); (case side2 => exact HR0.out); (case side3 => exact HC0.out); rintro e w7 ⟨g209, rfl, hi, hb, hb2⟩; refine ⟨_, rfl, ?_⟩; have n0_ := Yj (blk_below (g := gb206) (o := .cells #[.int .i64 0, .slice none 0 0] 36 (0, 0)) (by (with_reducible repeat (first | refine Ya ?_ _ | refine Yb ?_ | refine Yc ?_ _)); exact BK206.out) hb2); have n1_ := Yj (hb); have n2_ := Yj (hi); have n3_ := Yj (IsS94.ne_blk hi (blk_below (g := gb206) (o := .cells #[.int .i64 0, .slice none 0 0] 36 (0, 0)) (by (with_reducible repeat (first | refine Ya ?_ _ | refine Yb ?_ | refine Yc ?_ _)); exact BK206.out) hb2) (by decide)); have n4_ := Yj (Ne.symm (IsS94.ne_blk hi (blk_below (g := gb206) (o := .cells #[.int .i64 0, .slice none 0 0] 36 (0, 0)) (by (with_reducible repeat (first | refine Ya ?_ _ | refine Yb ?_ | refine Yc ?_ _)); exact BK206.out) hb2) (by decide))); clear BK206; clear HB; have BK206 := n0_; have HB := n1_; have HI209 := n2_; have NB209_206 := n3_; have NB206_209 := n4_; clear n0_ n1_ n2_ n3_ n4_; (try clear hb); (try clear hb2); (try clear hk); (try clear hi)) | ((with_reducible refine gate_callee (f := 32) rfl ?_); refine goesL_ (some 20) rfl rfl Try.func32 (by kernel_rfl) rfl #[.pointer (some ⟨g209, 0, none⟩), .int .i64 5] rfl (by (try simp only [List.map_toArray, List.map_cons, List.map_nil]); first | done | rfl | (simp only [List.length_drop, List.length_take]; rfl)) ?_; (with_reducible refine (spec_l7Any.calls k g209 t207 t208 5 t210 t211 t214 w _ ?side1 ?side2 A3.out).mono ?_); (case side1 => repeat (first | (with_reducible first | exact HI209.out | apply IsS94.alloc | apply IsS94.drewN | apply IsS94.drew | apply IsS94.set_1 | refine IsS94.far ?_ NB209_206.out _) | exact HI209.out)); (case side2 => repeat (first | (with_reducible first | exact HB.out | apply Yf | apply Yg | apply Yh | refine Yi ?_ (IsS94.ge HI209.out) | refine Yi ?_ GE206.out) | exact HB.out)); rintro e w8 ⟨v212, rfl, ho0, hi, hb, hk⟩; refine ⟨_, rfl, ?_⟩; have n0_ := Yj (KeepBut.blk hk (g' := gb206) (o := .cells #[.int .i64 0, .slice none 0 0] 36 (0, 0)) (by (with_reducible repeat (first | refine Ya ?_ _ | refine Yb ?_ | refine Yc ?_ _)); exact BK206.out) NB206_209.out (by simp)); have n1_ := Yj (Kd.R_lower ho0 (below_size (by repeat (first | (with_reducible first | exact HB.out | apply Yf | apply Yg | apply Yh | refine Yi ?_ (IsS94.ge HI209.out) | refine Yi ?_ GE206.out) | exact HB.out)))); have n2_ := Yj (hb); have n3_ := Yj (hi); clear BK206; clear HB; clear HI209; have BK206 := n0_; have HO213 := n1_; have HB := n2_; have HI209 := n3_; clear n0_ n1_ n2_ n3_; (try clear hb); (try clear hb2); (try clear hk); (try clear hi); (try clear ho0)) | ((with_reducible refine gate_dst (N := 6) rfl ?_); refine box_event ?hg (N := 6) ?hd (cs := #[.int .i64 0, .slice none 0 0]) (t := 36) ?hr ?_; (case hd => rfl); (case hg => rfl); (case hr => first | (go_simp; done) | (go_simp; rfl)); intro gb215 hg w9 hbox hb; have n0_ := Yj (Kd.R_below (by (with_reducible repeat (first | apply Kd.R_alloc | apply Kd.R_drewN | apply Kd.R_drew)); exact HO213.out) hb); have n1_ := Yj (blk_below (g := gb206) (o := .cells #[.int .i64 0, .slice none 0 0] 36 (0, 0)) (by (with_reducible repeat (first | refine Ya ?_ _ | refine Yb ?_ | refine Yc ?_ _)); exact BK206.out) hb); have n2_ := Yj (IsS94.below (by repeat (first | (with_reducible first | exact HI209.out | apply IsS94.alloc | apply IsS94.drewN | apply IsS94.drew | apply IsS94.set_1 | refine IsS94.far ?_ NB209_206.out _) | exact HI209.out)) hb); have n3_ := Yj (below_step (by repeat (first | (with_reducible first | exact HB.out | apply Yf | apply Yg | apply Yh | refine Yi ?_ (IsS94.ge HI209.out) | refine Yi ?_ GE206.out) | exact HB.out)) hb); have n4_ := Yj (hbox); have n5_ := Yj ((by rw [hg]; exact (below_size (by repeat (first | (with_reducible first | exact HB.out | apply Yf | apply Yg | apply Yh | refine Yi ?_ (IsS94.ge HI209.out) | refine Yi ?_ GE206.out) | exact HB.out))) : w.heap.size ≤ gb215)); have n6_ := Yj ((by rw [hg]; exact (below_size (by repeat (first | (with_reducible first | exact HB.out | apply Yf | apply Yg | apply Yh | refine Yi ?_ (IsS94.ge HI209.out) | refine Yi ?_ GE206.out) | exact HB.out))) : w.heap.size ≤ gb215)); have n7_ := Yj ((by rw [hg]; exact Nat.ne_of_lt (blk_lt (g := gb206) (o := .cells #[.int .i64 0, .slice none 0 0] 36 (0, 0)) (by (with_reducible repeat (first | refine Ya ?_ _ | refine Yb ?_ | refine Yc ?_ _)); exact BK206.out)) : gb206 ≠ gb215)); have n8_ := Yj ((by rw [hg]; exact Nat.ne_of_gt (blk_lt (g := gb206) (o := .cells #[.int .i64 0, .slice none 0 0] 36 (0, 0)) (by (with_reducible repeat (first | refine Ya ?_ _ | refine Yb ?_ | refine Yc ?_ _)); exact BK206.out)) : gb215 ≠ gb206)); have n9_ := Yj ((by rw [hg]; exact Nat.ne_of_lt (IsS94.lt (show IsS94 w _ g209 t207 t214 from by repeat (first | (with_reducible first | exact HI209.out | apply IsS94.alloc | apply IsS94.drewN | apply IsS94.drew | apply IsS94.set_1 | refine IsS94.far ?_ NB209_206.out _) | exact HI209.out))) : g209 ≠ gb215)); have n10_ := Yj ((by rw [hg]; exact Nat.ne_of_gt (IsS94.lt (show IsS94 w _ g209 t207 t214 from by repeat (first | (with_reducible first | exact HI209.out | apply IsS94.alloc | apply IsS94.drewN | apply IsS94.drew | apply IsS94.set_1 | refine IsS94.far ?_ NB209_206.out _) | exact HI209.out))) : gb215 ≠ g209)); clear HO213; clear BK206; clear HI209; clear HB; have HO213 := n0_; have BK206 := n1_; have HI209 := n2_; have HB := n3_; have BK215 := n4_; have GW215 := n5_; have GE215 := n6_; have NB206_215 := n7_; have NB215_206 := n8_; have NB209_215 := n9_; have NB215_209 := n10_; clear n0_ n1_ n2_ n3_ n4_ n5_ n6_ n7_ n8_ n9_ n10_; clear hb hbox hg; have hnb10 := NB215_206.out; have hnc10 := NB206_215.out; have hnb11 := NB215_209.out; have hnc11 := NB209_215.out; have hcz12_0 : w9.cell? ⟨gb215, 0, none⟩ = some (.int .i64 0) := (Yd BK215.out 0).trans rfl; have hcz12_1 : w9.cell? ⟨gb215, 1, none⟩ = some (.slice none 0 0) := (Yd BK215.out 1).trans rfl; have hfz12_0 := Ye BK215.out 0; have hfz12_1 := Ye BK215.out 1; obtain ⟨Ao13, co13, eo13⟩ := Kd.R_slice HO213.out; subst eo13) | ((with_reducible refine gate_callee (f := 33) rfl ?_); refine goesL_ (some 23) rfl rfl Try.func33 (by kernel_rfl) rfl #[.pointer (some ⟨g209, 0, none⟩), .agg #[.int .i64 t210, .slice Ao13 t211.length co13]] rfl (by (try simp only [List.map_toArray, List.map_cons, List.map_nil]); first | done | rfl | (simp only [List.length_drop, List.length_take]; rfl)) ?_; (with_reducible refine (spec_l7Some.calls k g209 t207 t214 t210 _ _ t211 t216 t217 w _ ?side1 ?side2 ?side3 ?side4 A4.out).mono ?_); (case side1 => repeat (first | (with_reducible first | exact HI209.out | apply IsS94.alloc | apply IsS94.drewN | apply IsS94.drew | apply IsS94.set_1 | refine IsS94.far ?_ NB209_206.out _ | refine IsS94.far ?_ NB209_215.out _) | exact HI209.out)); (case side2 => repeat (first | (with_reducible first | exact HB.out | apply Yf | apply Yg | apply Yh | refine Yi ?_ (IsS94.ge HI209.out) | refine Yi ?_ GE206.out | refine Yi ?_ GE215.out) | exact HB.out)); (case side3 => exact Kd.C_foot_own (IsS94.apart (show IsS94 w _ g209 t207 t214 from by repeat (first | (with_reducible first | exact HI209.out | apply IsS94.alloc | apply IsS94.drewN | apply IsS94.drew | apply IsS94.set_1 | refine IsS94.far ?_ NB209_206.out _ | refine IsS94.far ?_ NB209_215.out _) | exact HI209.out)) (by (with_reducible repeat (first | apply Kd.R_alloc | apply Kd.R_drewN | apply Kd.R_drew)); exact (Kd.R_mono (Kd.R_far (p := ⟨gb215, 1, none⟩) (Kd.R_far (p := ⟨gb215, 0, none⟩) (Kd.R_types HO213.out BK215.out (by decide)) (fun _ hk => hk.2) (.int .i64 t210)) (fun _ hk => hk.2) (.slice Ao13 t211.length co13)) (fun _ h_ => h_.1))) (by decide)) (fun _ h_ => h_.2)); (case side4 => exact (Kd.R_reads' HO213.out).2.1); rintro e w14 ⟨rfl, hi, hb, hk⟩; refine ⟨_, rfl, ?_⟩; have n0_ := Yj (KeepBut.blk hk (g' := gb206) (o := .cells #[.int .i64 0, .slice none 0 0] 36 (0, 0)) (by (with_reducible repeat (first | refine Ya ?_ _ | refine Yb ?_ | refine Yc ?_ _)); refine blk_far ?_ NB206_215.out _; (with_reducible repeat (first | refine Ya ?_ _ | refine Yb ?_ | refine Yc ?_ _)); refine blk_far ?_ NB206_215.out _; (with_reducible repeat (first | refine Ya ?_ _ | refine Yb ?_ | refine Yc ?_ _)); exact BK206.out) NB206_209.out (by simp)); have n1_ := Yj (Kd.R_mono (Kd.R_keep (IsS94.apart (show IsS94 w _ g209 t207 t214 from by repeat (first | (with_reducible first | exact HI209.out | apply IsS94.alloc | apply IsS94.drewN | apply IsS94.drew | apply IsS94.set_1 | refine IsS94.far ?_ NB209_206.out _ | refine IsS94.far ?_ NB209_215.out _) | exact HI209.out)) (by (with_reducible repeat (first | apply Kd.R_alloc | apply Kd.R_drewN | apply Kd.R_drew)); exact (Kd.R_mono (Kd.R_far (p := ⟨gb215, 1, none⟩) (Kd.R_far (p := ⟨gb215, 0, none⟩) (Kd.R_types HO213.out BK215.out (by decide)) (fun _ hk => hk.2) (.int .i64 t210)) (fun _ hk => hk.2) (.slice Ao13 t211.length co13)) (fun _ h_ => h_.1))) (by decide)) hk (fun _ h => h.2)) (fun _ h => h.1)); have n2_ := Yj (KeepBut.blk hk (g' := gb215) (o := .cells #[.int .i64 t210, .slice Ao13 t211.length co13] 36 (0, 0)) (by (with_reducible repeat (first | refine Ya ?_ _ | refine Yb ?_ | refine Yc ?_ _)); refine blk_put (cs := #[.int .i64 t210, .slice none 0 0]) ?_ 1 _ rfl; (with_reducible repeat (first | refine Ya ?_ _ | refine Yb ?_ | refine Yc ?_ _)); refine blk_put (cs := #[.int .i64 0, .slice none 0 0]) ?_ 0 _ rfl; (with_reducible repeat (first | refine Ya ?_ _ | refine Yb ?_ | refine Yc ?_ _)); exact BK215.out) NB215_209.out (by simp)); have n3_ := Yj (hb); have n4_ := Yj (hi); clear BK206; clear HO213; clear BK215; clear HB; clear HI209; have BK206 := n0_; have HO213 := n1_; have BK215 := n2_; have HB := n3_; have HI209 := n4_; clear n0_ n1_ n2_ n3_ n4_; (try clear hb); (try clear hb2); (try clear hk); (try clear hi)))
 (try simp only [Act.put, List.setIfInBounds_toArray, List.set_cons_zero, List.set_cons_succ])
 go_cut [40] (fun v40 wc => ∃ (kq : Nat) (x40_4 : Bool) (x210001_4 : Int), v40 = .bool x40_4 ∧ Aside0 (spec_DrawSameEdges.j0 kq t216 x40_4 t207 x210001_4 t210 t211 = some (r1, r2, r3, r4)) ∧ Aside0 (kq ≤ k) ∧ Aside0 (Kd.R k73 73 wc w.heap.size (fun _ => True) (.slice Ao13 t211.length co13) t211) ∧ Aside0 (wc.heap[gb206]? = some (.cells #[.int .i64 0, (.slice none 0 0)] 36 (0, 0))) ∧ Aside0 (wc.heap[gb215]? = some (.cells #[.int .i64 t210, (.slice Ao13 t211.length co13)] 36 (0, 0))) ∧ Aside0 (IsS94 w wc g209 t207 x210001_4) ∧ Aside0 (Below w.heap.size w wc))
 case first =>
  have H := HC5.out
  clear HC5
  replace H := Yk H
  obtain ⟨t218, A150, H⟩ := H
  replace H : (if t218 = true then ((spec_l7Edge.f t210 t211 t216).bind fun t219 => (if t219 = true then (if t210 > 0 then ((spec_l40Rd_pick.f k t207 t217 2).bind fun bt220 => (spec_DrawSameEdges.j0 k t216 (bt220.1 == 0) t207 bt220.2 t210 t211)) else (spec_DrawSameEdges.j0 k t216 false t207 t217 t210 t211)) else (spec_DrawSameEdges.j0 k t216 false t207 t217 t210 t211))) else (spec_DrawSameEdges.j0 k t216 false t207 t217 t210 t211)) = some (r1, r2, r3, r4) := H
  have A15 := Yj A150
  clear A150
  by_cases c16 : t218 = true
  ·subst c16
   have H1 : ((spec_l7Edge.f t210 t211 t216).bind fun t219 => (if t219 = true then (if t210 > 0 then ((spec_l40Rd_pick.f k t207 t217 2).bind fun bt220 => (spec_DrawSameEdges.j0 k t216 (bt220.1 == 0) t207 bt220.2 t210 t211)) else (spec_DrawSameEdges.j0 k t216 false t207 t217 t210 t211)) else (spec_DrawSameEdges.j0 k t216 false t207 t217 t210 t211))) = some (r1, r2, r3, r4) := by rw [if_pos rfl] at H; exact H
   clear H
   have H := H1
   clear H1
   replace H := Yk H
   obtain ⟨t219, A170, H⟩ := H
   replace H : (if t219 = true then (if t210 > 0 then ((spec_l40Rd_pick.f k t207 t217 2).bind fun bt220 => (spec_DrawSameEdges.j0 k t216 (bt220.1 == 0) t207 bt220.2 t210 t211)) else (spec_DrawSameEdges.j0 k t216 false t207 t217 t210 t211)) else (spec_DrawSameEdges.j0 k t216 false t207 t217 t210 t211)) = some (r1, r2, r3, r4) := H
   have A17 := Yj A170
   clear A170
   by_cases c18 : t219 = true
   ·subst c18
    have H1 : (if t210 > 0 then ((spec_l40Rd_pick.f k t207 t217 2).bind fun bt220 => (spec_DrawSameEdges.j0 k t216 (bt220.1 == 0) t207 bt220.2 t210 t211)) else (spec_DrawSameEdges.j0 k t216 false t207 t217 t210 t211)) = some (r1, r2, r3, r4) := by rw [if_pos rfl] at H; exact H
    clear H
    have H := H1
    clear H1
    by_cases c19 : t210 > 0
    ·rw [if_pos c19] at H
     have c19b0 : decide (0 < t210) = true := decide_eq_true c19
     clear c19
     (first | rw [c19b0] | (simp only [i64_w, i32_w]; rw [c19b0]) | rw [c19b1] | simp only [c19b1] | skip)
     replace H := Yk H
     obtain ⟨⟨t220, t221⟩, A200, H⟩ := H
     replace H : (spec_DrawSameEdges.j0 k t216 (t220 == 0) t207 t221 t210 t211) = some (r1, r2, r3, r4) := H
     have A20 := Yj A200
     clear A200
     have H' := Yj H
     clear H
     have hnb21 := NB215_206.out
     have hnc21 := NB206_215.out
     have hnb22 := NB215_209.out
     have hnc22 := NB209_215.out
     have hcz23_0 : w14.cell? ⟨gb215, 0, none⟩ = some (.int .i64 t210) := (Yd BK215.out 0).trans rfl
     have hcz23_1 : w14.cell? ⟨gb215, 1, none⟩ = some (.slice Ao13 t211.length co13) := (Yd BK215.out 1).trans rfl
     have hfz23_0 := Ye BK215.out 0
     have hfz23_1 := Ye BK215.out 1
     go_wp2_with (first | ((with_reducible refine gate_callee (f := 15) rfl ?_); refine goesL_ (some 25) rfl rfl Try.func15 (by kernel_rfl) rfl #[.agg #[.int .i64 t210, .slice Ao13 t211.length co13]] rfl (by (try simp only [List.map_toArray, List.map_cons, List.map_nil]); first | done | rfl | (simp only [List.length_drop, List.length_take]; rfl)) ?_; (with_reducible refine (spec_CircuitValid.calls k t210 _ _ t211 true _ ?side1 ?side2 A15.out).mono ?_); (case side1 => repeat (first | exact (Kd.R_reads' HO213.out).2.2 | (with_reducible refine Kd.C_alloc ?_ _) | (with_reducible refine Kd.C_drewN ?_ _) | (with_reducible refine Kd.C_drew ?_))); (case side2 => exact (Kd.R_reads' HO213.out).2.1); rintro e w24 ⟨rfl, hb⟩; refine ⟨_, rfl, ?_⟩; have n0_ := Yj (Kd.R_below (by (with_reducible repeat (first | apply Kd.R_alloc | apply Kd.R_drewN | apply Kd.R_drew)); exact HO213.out) hb); have n1_ := Yj (blk_below (g := gb206) (o := .cells #[.int .i64 0, .slice none 0 0] 36 (0, 0)) (by (with_reducible repeat (first | refine Ya ?_ _ | refine Yb ?_ | refine Yc ?_ _)); exact BK206.out) hb); have n2_ := Yj (IsS94.below (by repeat (first | (with_reducible first | exact HI209.out | apply IsS94.alloc | apply IsS94.drewN | apply IsS94.drew | apply IsS94.set_1 | refine IsS94.far ?_ NB209_206.out _ | refine IsS94.far ?_ NB209_215.out _) | exact HI209.out)) hb); have n3_ := Yj (blk_below (g := gb215) (o := .cells #[.int .i64 t210, .slice Ao13 t211.length co13] 36 (0, 0)) (by (with_reducible repeat (first | refine Ya ?_ _ | refine Yb ?_ | refine Yc ?_ _)); exact BK215.out) hb); have n4_ := Yj (below_step (by repeat (first | (with_reducible first | exact HB.out | apply Yf | apply Yg | apply Yh | refine Yi ?_ (IsS94.ge HI209.out) | refine Yi ?_ GE206.out | refine Yi ?_ GE215.out) | exact HB.out)) hb); clear HO213; clear BK206; clear HI209; clear BK215; clear HB; have HO213 := n0_; have BK206 := n1_; have HI209 := n2_; have BK215 := n3_; have HB := n4_; clear n0_ n1_ n2_ n3_ n4_; (try clear hb); (try clear hb2); (try clear hk); (try clear hi); have hcz25_0 : w24.cell? ⟨gb215, 0, none⟩ = some (.int .i64 t210) := (Yd BK215.out 0).trans rfl; have hcz25_1 : w24.cell? ⟨gb215, 1, none⟩ = some (.slice Ao13 t211.length co13) := (Yd BK215.out 1).trans rfl; have hfz25_0 := Ye BK215.out 0; have hfz25_1 := Ye BK215.out 1) | (go_at_call 34; (with_reducible refine (spec_l7Edge.calls t210 _ _ t211 t216 true _ ?side1 ?side2 A17.out).mono ?_); (case side1 => repeat (first | exact (Kd.R_reads' HO213.out).2.2 | (with_reducible refine Kd.C_alloc ?_ _) | (with_reducible refine Kd.C_drewN ?_ _) | (with_reducible refine Kd.C_drew ?_))); (case side2 => exact (Kd.R_reads' HO213.out).2.1); rintro e w26 ⟨rfl, hb⟩; have n0_ := Yj (Kd.R_below (by (with_reducible repeat (first | apply Kd.R_alloc | apply Kd.R_drewN | apply Kd.R_drew)); exact HO213.out) hb); have n1_ := Yj (blk_below (g := gb206) (o := .cells #[.int .i64 0, .slice none 0 0] 36 (0, 0)) (by (with_reducible repeat (first | refine Ya ?_ _ | refine Yb ?_ | refine Yc ?_ _)); exact BK206.out) hb); have n2_ := Yj (IsS94.below (by repeat (first | (with_reducible first | exact HI209.out | apply IsS94.alloc | apply IsS94.drewN | apply IsS94.drew | apply IsS94.set_1 | refine IsS94.far ?_ NB209_206.out _ | refine IsS94.far ?_ NB209_215.out _) | exact HI209.out)) hb); have n3_ := Yj (blk_below (g := gb215) (o := .cells #[.int .i64 t210, .slice Ao13 t211.length co13] 36 (0, 0)) (by (with_reducible repeat (first | refine Ya ?_ _ | refine Yb ?_ | refine Yc ?_ _)); exact BK215.out) hb); have n4_ := Yj (below_step (by repeat (first | (with_reducible first | exact HB.out | apply Yf | apply Yg | apply Yh | refine Yi ?_ (IsS94.ge HI209.out) | refine Yi ?_ GE206.out | refine Yi ?_ GE215.out) | exact HB.out)) hb); clear HO213; clear BK206; clear HI209; clear BK215; clear HB; have HO213 := n0_; have BK206 := n1_; have HI209 := n2_; have BK215 := n3_; have HB := n4_; clear n0_ n1_ n2_ n3_ n4_; (try clear hb); (try clear hb2); (try clear hk); (try clear hi); have hcz27_0 : w26.cell? ⟨gb215, 0, none⟩ = some (.int .i64 t210) := (Yd BK215.out 0).trans rfl; have hcz27_1 : w26.cell? ⟨gb215, 1, none⟩ = some (.slice Ao13 t211.length co13) := (Yd BK215.out 1).trans rfl; have hfz27_0 := Ye BK215.out 0; have hfz27_1 := Ye BK215.out 1) | (go_at_call 35; (with_reducible refine (spec_l40Rd_pick.calls k g209 t207 t217 2 t220 t221 w _ ?side1 ?side2 A20.out).mono ?_); (case side1 => repeat (first | (with_reducible first | exact HI209.out | apply IsS94.alloc | apply IsS94.drewN | apply IsS94.drew | apply IsS94.set_1 | refine IsS94.far ?_ NB209_206.out _ | refine IsS94.far ?_ NB209_215.out _) | exact HI209.out)); (case side2 => repeat (first | (with_reducible first | exact HB.out | apply Yf | apply Yg | apply Yh | refine Yi ?_ (IsS94.ge HI209.out) | refine Yi ?_ GE206.out | refine Yi ?_ GE215.out) | exact HB.out)); rintro e w28 ⟨rfl, hi, hb, hk⟩; have n0_ := Yj (KeepBut.blk hk (g' := gb206) (o := .cells #[.int .i64 0, .slice none 0 0] 36 (0, 0)) (by (with_reducible repeat (first | refine Ya ?_ _ | refine Yb ?_ | refine Yc ?_ _)); exact BK206.out) NB206_209.out (by simp)); have n1_ := Yj (Kd.R_mono (Kd.R_keep (IsS94.apart (show IsS94 w _ g209 t207 t217 from by repeat (first | (with_reducible first | exact HI209.out | apply IsS94.alloc | apply IsS94.drewN | apply IsS94.drew | apply IsS94.set_1 | refine IsS94.far ?_ NB209_206.out _ | refine IsS94.far ?_ NB209_215.out _) | exact HI209.out)) (by (with_reducible repeat (first | apply Kd.R_alloc | apply Kd.R_drewN | apply Kd.R_drew)); exact HO213.out) (by decide)) hk (fun _ h => h.2)) (fun _ h => h.1)); have n2_ := Yj (KeepBut.blk hk (g' := gb215) (o := .cells #[.int .i64 t210, .slice Ao13 t211.length co13] 36 (0, 0)) (by (with_reducible repeat (first | refine Ya ?_ _ | refine Yb ?_ | refine Yc ?_ _)); exact BK215.out) NB215_209.out (by simp)); have n3_ := Yj (hb); have n4_ := Yj (hi); clear BK206; clear HO213; clear BK215; clear HB; clear HI209; have BK206 := n0_; have HO213 := n1_; have BK215 := n2_; have HB := n3_; have HI209 := n4_; clear n0_ n1_ n2_ n3_ n4_; (try clear hb); (try clear hb2); (try clear hk); (try clear hi)))
     go_meet
     case rel => exact ⟨_, ((t220 == 0)), (t221), (by first | rfl | (simp; done) | (simp [*]; done)), H', ⟨by first | omega | exact Nat.le_refl _⟩, ⟨by (with_reducible repeat (first | apply Kd.R_alloc | apply Kd.R_drewN | apply Kd.R_drew)); exact HO213.out⟩, ⟨by (with_reducible repeat (first | refine Ya ?_ _ | refine Yb ?_ | refine Yc ?_ _)); exact BK206.out⟩, ⟨by (with_reducible repeat (first | refine Ya ?_ _ | refine Yb ?_ | refine Yc ?_ _)); exact BK215.out⟩, ⟨by repeat (first | (with_reducible first | exact HI209.out | apply IsS94.alloc | apply IsS94.drewN | apply IsS94.drew | apply IsS94.set_1 | refine IsS94.far ?_ NB209_206.out _ | refine IsS94.far ?_ NB209_215.out _) | exact HI209.out)⟩, ⟨by repeat (first | (with_reducible first | exact HB.out | apply Yf | apply Yg | apply Yh | refine Yi ?_ (IsS94.ge HI209.out) | refine Yi ?_ GE206.out | refine Yi ?_ GE215.out) | exact HB.out)⟩⟩
    ·rw [if_neg c19] at H
     have c19b0 : decide (0 < t210) = false := decide_eq_false c19
     clear c19
     (first | rw [c19b0] | (simp only [i64_w, i32_w]; rw [c19b0]) | rw [c19b1] | simp only [c19b1] | skip)
     have H' := Yj H
     clear H
     have hnb29 := NB215_206.out
     have hnc29 := NB206_215.out
     have hnb30 := NB215_209.out
     have hnc30 := NB209_215.out
     have hcz31_0 : w14.cell? ⟨gb215, 0, none⟩ = some (.int .i64 t210) := (Yd BK215.out 0).trans rfl
     have hcz31_1 : w14.cell? ⟨gb215, 1, none⟩ = some (.slice Ao13 t211.length co13) := (Yd BK215.out 1).trans rfl
     have hfz31_0 := Ye BK215.out 0
     have hfz31_1 := Ye BK215.out 1
     go_wp2_with (first | ((with_reducible refine gate_callee (f := 15) rfl ?_); refine goesL_ (some 25) rfl rfl Try.func15 (by kernel_rfl) rfl #[.agg #[.int .i64 t210, .slice Ao13 t211.length co13]] rfl (by (try simp only [List.map_toArray, List.map_cons, List.map_nil]); first | done | rfl | (simp only [List.length_drop, List.length_take]; rfl)) ?_; (with_reducible refine (spec_CircuitValid.calls k t210 _ _ t211 true _ ?side1 ?side2 A15.out).mono ?_); (case side1 => repeat (first | exact (Kd.R_reads' HO213.out).2.2 | (with_reducible refine Kd.C_alloc ?_ _) | (with_reducible refine Kd.C_drewN ?_ _) | (with_reducible refine Kd.C_drew ?_))); (case side2 => exact (Kd.R_reads' HO213.out).2.1); rintro e w32 ⟨rfl, hb⟩; refine ⟨_, rfl, ?_⟩; have n0_ := Yj (Kd.R_below (by (with_reducible repeat (first | apply Kd.R_alloc | apply Kd.R_drewN | apply Kd.R_drew)); exact HO213.out) hb); have n1_ := Yj (blk_below (g := gb206) (o := .cells #[.int .i64 0, .slice none 0 0] 36 (0, 0)) (by (with_reducible repeat (first | refine Ya ?_ _ | refine Yb ?_ | refine Yc ?_ _)); exact BK206.out) hb); have n2_ := Yj (IsS94.below (by repeat (first | (with_reducible first | exact HI209.out | apply IsS94.alloc | apply IsS94.drewN | apply IsS94.drew | apply IsS94.set_1 | refine IsS94.far ?_ NB209_206.out _ | refine IsS94.far ?_ NB209_215.out _) | exact HI209.out)) hb); have n3_ := Yj (blk_below (g := gb215) (o := .cells #[.int .i64 t210, .slice Ao13 t211.length co13] 36 (0, 0)) (by (with_reducible repeat (first | refine Ya ?_ _ | refine Yb ?_ | refine Yc ?_ _)); exact BK215.out) hb); have n4_ := Yj (below_step (by repeat (first | (with_reducible first | exact HB.out | apply Yf | apply Yg | apply Yh | refine Yi ?_ (IsS94.ge HI209.out) | refine Yi ?_ GE206.out | refine Yi ?_ GE215.out) | exact HB.out)) hb); clear HO213; clear BK206; clear HI209; clear BK215; clear HB; have HO213 := n0_; have BK206 := n1_; have HI209 := n2_; have BK215 := n3_; have HB := n4_; clear n0_ n1_ n2_ n3_ n4_; (try clear hb); (try clear hb2); (try clear hk); (try clear hi); have hcz33_0 : w32.cell? ⟨gb215, 0, none⟩ = some (.int .i64 t210) := (Yd BK215.out 0).trans rfl; have hcz33_1 : w32.cell? ⟨gb215, 1, none⟩ = some (.slice Ao13 t211.length co13) := (Yd BK215.out 1).trans rfl; have hfz33_0 := Ye BK215.out 0; have hfz33_1 := Ye BK215.out 1) | (go_at_call 34; (with_reducible refine (spec_l7Edge.calls t210 _ _ t211 t216 true _ ?side1 ?side2 A17.out).mono ?_); (case side1 => repeat (first | exact (Kd.R_reads' HO213.out).2.2 | (with_reducible refine Kd.C_alloc ?_ _) | (with_reducible refine Kd.C_drewN ?_ _) | (with_reducible refine Kd.C_drew ?_))); (case side2 => exact (Kd.R_reads' HO213.out).2.1); rintro e w34 ⟨rfl, hb⟩; have n0_ := Yj (Kd.R_below (by (with_reducible repeat (first | apply Kd.R_alloc | apply Kd.R_drewN | apply Kd.R_drew)); exact HO213.out) hb); have n1_ := Yj (blk_below (g := gb206) (o := .cells #[.int .i64 0, .slice none 0 0] 36 (0, 0)) (by (with_reducible repeat (first | refine Ya ?_ _ | refine Yb ?_ | refine Yc ?_ _)); exact BK206.out) hb); have n2_ := Yj (IsS94.below (by repeat (first | (with_reducible first | exact HI209.out | apply IsS94.alloc | apply IsS94.drewN | apply IsS94.drew | apply IsS94.set_1 | refine IsS94.far ?_ NB209_206.out _ | refine IsS94.far ?_ NB209_215.out _) | exact HI209.out)) hb); have n3_ := Yj (blk_below (g := gb215) (o := .cells #[.int .i64 t210, .slice Ao13 t211.length co13] 36 (0, 0)) (by (with_reducible repeat (first | refine Ya ?_ _ | refine Yb ?_ | refine Yc ?_ _)); exact BK215.out) hb); have n4_ := Yj (below_step (by repeat (first | (with_reducible first | exact HB.out | apply Yf | apply Yg | apply Yh | refine Yi ?_ (IsS94.ge HI209.out) | refine Yi ?_ GE206.out | refine Yi ?_ GE215.out) | exact HB.out)) hb); clear HO213; clear BK206; clear HI209; clear BK215; clear HB; have HO213 := n0_; have BK206 := n1_; have HI209 := n2_; have BK215 := n3_; have HB := n4_; clear n0_ n1_ n2_ n3_ n4_; (try clear hb); (try clear hb2); (try clear hk); (try clear hi); have hcz35_0 : w34.cell? ⟨gb215, 0, none⟩ = some (.int .i64 t210) := (Yd BK215.out 0).trans rfl; have hcz35_1 : w34.cell? ⟨gb215, 1, none⟩ = some (.slice Ao13 t211.length co13) := (Yd BK215.out 1).trans rfl; have hfz35_0 := Ye BK215.out 0; have hfz35_1 := Ye BK215.out 1))
     go_meet
     case rel => exact ⟨_, (false), (t217), (by first | rfl | (simp; done) | (simp [*]; done)), H', ⟨by first | omega | exact Nat.le_refl _⟩, ⟨by (with_reducible repeat (first | apply Kd.R_alloc | apply Kd.R_drewN | apply Kd.R_drew)); exact HO213.out⟩, ⟨by (with_reducible repeat (first | refine Ya ?_ _ | refine Yb ?_ | refine Yc ?_ _)); exact BK206.out⟩, ⟨by (with_reducible repeat (first | refine Ya ?_ _ | refine Yb ?_ | refine Yc ?_ _)); exact BK215.out⟩, ⟨by repeat (first | (with_reducible first | exact HI209.out | apply IsS94.alloc | apply IsS94.drewN | apply IsS94.drew | apply IsS94.set_1 | refine IsS94.far ?_ NB209_206.out _ | refine IsS94.far ?_ NB209_215.out _) | exact HI209.out)⟩, ⟨by repeat (first | (with_reducible first | exact HB.out | apply Yf | apply Yg | apply Yh | refine Yi ?_ (IsS94.ge HI209.out) | refine Yi ?_ GE206.out | refine Yi ?_ GE215.out) | exact HB.out)⟩⟩
   ·replace c18 := Bool.eq_false_iff.mpr c18
    subst c18
    have H1 : (spec_DrawSameEdges.j0 k t216 false t207 t217 t210 t211) = some (r1, r2, r3, r4) := by rw [if_neg (show ¬ (false = true) by decide)] at H; exact H
    clear H
    have H := H1
    clear H1
    have H' := Yj H
    clear H
    have hnb36 := NB215_206.out
    have hnc36 := NB206_215.out
    have hnb37 := NB215_209.out
    have hnc37 := NB209_215.out
    have hcz38_0 : w14.cell? ⟨gb215, 0, none⟩ = some (.int .i64 t210) := (Yd BK215.out 0).trans rfl
    have hcz38_1 : w14.cell? ⟨gb215, 1, none⟩ = some (.slice Ao13 t211.length co13) := (Yd BK215.out 1).trans rfl
    have hfz38_0 := Ye BK215.out 0
    have hfz38_1 := Ye BK215.out 1
    go_wp2_with (first | ((with_reducible refine gate_callee (f := 15) rfl ?_); refine goesL_ (some 25) rfl rfl Try.func15 (by kernel_rfl) rfl #[.agg #[.int .i64 t210, .slice Ao13 t211.length co13]] rfl (by (try simp only [List.map_toArray, List.map_cons, List.map_nil]); first | done | rfl | (simp only [List.length_drop, List.length_take]; rfl)) ?_; (with_reducible refine (spec_CircuitValid.calls k t210 _ _ t211 true _ ?side1 ?side2 A15.out).mono ?_); (case side1 => repeat (first | exact (Kd.R_reads' HO213.out).2.2 | (with_reducible refine Kd.C_alloc ?_ _) | (with_reducible refine Kd.C_drewN ?_ _) | (with_reducible refine Kd.C_drew ?_))); (case side2 => exact (Kd.R_reads' HO213.out).2.1); rintro e w39 ⟨rfl, hb⟩; refine ⟨_, rfl, ?_⟩; have n0_ := Yj (Kd.R_below (by (with_reducible repeat (first | apply Kd.R_alloc | apply Kd.R_drewN | apply Kd.R_drew)); exact HO213.out) hb); have n1_ := Yj (blk_below (g := gb206) (o := .cells #[.int .i64 0, .slice none 0 0] 36 (0, 0)) (by (with_reducible repeat (first | refine Ya ?_ _ | refine Yb ?_ | refine Yc ?_ _)); exact BK206.out) hb); have n2_ := Yj (IsS94.below (by repeat (first | (with_reducible first | exact HI209.out | apply IsS94.alloc | apply IsS94.drewN | apply IsS94.drew | apply IsS94.set_1 | refine IsS94.far ?_ NB209_206.out _ | refine IsS94.far ?_ NB209_215.out _) | exact HI209.out)) hb); have n3_ := Yj (blk_below (g := gb215) (o := .cells #[.int .i64 t210, .slice Ao13 t211.length co13] 36 (0, 0)) (by (with_reducible repeat (first | refine Ya ?_ _ | refine Yb ?_ | refine Yc ?_ _)); exact BK215.out) hb); have n4_ := Yj (below_step (by repeat (first | (with_reducible first | exact HB.out | apply Yf | apply Yg | apply Yh | refine Yi ?_ (IsS94.ge HI209.out) | refine Yi ?_ GE206.out | refine Yi ?_ GE215.out) | exact HB.out)) hb); clear HO213; clear BK206; clear HI209; clear BK215; clear HB; have HO213 := n0_; have BK206 := n1_; have HI209 := n2_; have BK215 := n3_; have HB := n4_; clear n0_ n1_ n2_ n3_ n4_; (try clear hb); (try clear hb2); (try clear hk); (try clear hi); have hcz40_0 : w39.cell? ⟨gb215, 0, none⟩ = some (.int .i64 t210) := (Yd BK215.out 0).trans rfl; have hcz40_1 : w39.cell? ⟨gb215, 1, none⟩ = some (.slice Ao13 t211.length co13) := (Yd BK215.out 1).trans rfl; have hfz40_0 := Ye BK215.out 0; have hfz40_1 := Ye BK215.out 1) | (go_at_call 34; (with_reducible refine (spec_l7Edge.calls t210 _ _ t211 t216 false _ ?side1 ?side2 A17.out).mono ?_); (case side1 => repeat (first | exact (Kd.R_reads' HO213.out).2.2 | (with_reducible refine Kd.C_alloc ?_ _) | (with_reducible refine Kd.C_drewN ?_ _) | (with_reducible refine Kd.C_drew ?_))); (case side2 => exact (Kd.R_reads' HO213.out).2.1); rintro e w41 ⟨rfl, hb⟩; have n0_ := Yj (Kd.R_below (by (with_reducible repeat (first | apply Kd.R_alloc | apply Kd.R_drewN | apply Kd.R_drew)); exact HO213.out) hb); have n1_ := Yj (blk_below (g := gb206) (o := .cells #[.int .i64 0, .slice none 0 0] 36 (0, 0)) (by (with_reducible repeat (first | refine Ya ?_ _ | refine Yb ?_ | refine Yc ?_ _)); exact BK206.out) hb); have n2_ := Yj (IsS94.below (by repeat (first | (with_reducible first | exact HI209.out | apply IsS94.alloc | apply IsS94.drewN | apply IsS94.drew | apply IsS94.set_1 | refine IsS94.far ?_ NB209_206.out _ | refine IsS94.far ?_ NB209_215.out _) | exact HI209.out)) hb); have n3_ := Yj (blk_below (g := gb215) (o := .cells #[.int .i64 t210, .slice Ao13 t211.length co13] 36 (0, 0)) (by (with_reducible repeat (first | refine Ya ?_ _ | refine Yb ?_ | refine Yc ?_ _)); exact BK215.out) hb); have n4_ := Yj (below_step (by repeat (first | (with_reducible first | exact HB.out | apply Yf | apply Yg | apply Yh | refine Yi ?_ (IsS94.ge HI209.out) | refine Yi ?_ GE206.out | refine Yi ?_ GE215.out) | exact HB.out)) hb); clear HO213; clear BK206; clear HI209; clear BK215; clear HB; have HO213 := n0_; have BK206 := n1_; have HI209 := n2_; have BK215 := n3_; have HB := n4_; clear n0_ n1_ n2_ n3_ n4_; (try clear hb); (try clear hb2); (try clear hk); (try clear hi)))
    go_meet
    case rel => exact ⟨_, (false), (t217), (by first | rfl | (simp; done) | (simp [*]; done)), H', ⟨by first | omega | exact Nat.le_refl _⟩, ⟨by (with_reducible repeat (first | apply Kd.R_alloc | apply Kd.R_drewN | apply Kd.R_drew)); exact HO213.out⟩, ⟨by (with_reducible repeat (first | refine Ya ?_ _ | refine Yb ?_ | refine Yc ?_ _)); exact BK206.out⟩, ⟨by (with_reducible repeat (first | refine Ya ?_ _ | refine Yb ?_ | refine Yc ?_ _)); exact BK215.out⟩, ⟨by repeat (first | (with_reducible first | exact HI209.out | apply IsS94.alloc | apply IsS94.drewN | apply IsS94.drew | apply IsS94.set_1 | refine IsS94.far ?_ NB209_206.out _ | refine IsS94.far ?_ NB209_215.out _) | exact HI209.out)⟩, ⟨by repeat (first | (with_reducible first | exact HB.out | apply Yf | apply Yg | apply Yh | refine Yi ?_ (IsS94.ge HI209.out) | refine Yi ?_ GE206.out | refine Yi ?_ GE215.out) | exact HB.out)⟩⟩
  ·replace c16 := Bool.eq_false_iff.mpr c16
   subst c16
   have H1 : (spec_DrawSameEdges.j0 k t216 false t207 t217 t210 t211) = some (r1, r2, r3, r4) := by rw [if_neg (show ¬ (false = true) by decide)] at H; exact H
   clear H
   have H := H1
   clear H1
   have H' := Yj H
   clear H
   have hnb42 := NB215_206.out
   have hnc42 := NB206_215.out
   have hnb43 := NB215_209.out
   have hnc43 := NB209_215.out
   have hcz44_0 : w14.cell? ⟨gb215, 0, none⟩ = some (.int .i64 t210) := (Yd BK215.out 0).trans rfl
   have hcz44_1 : w14.cell? ⟨gb215, 1, none⟩ = some (.slice Ao13 t211.length co13) := (Yd BK215.out 1).trans rfl
   have hfz44_0 := Ye BK215.out 0
   have hfz44_1 := Ye BK215.out 1
   go_wp2_with (first | ((with_reducible refine gate_callee (f := 15) rfl ?_); refine goesL_ (some 25) rfl rfl Try.func15 (by kernel_rfl) rfl #[.agg #[.int .i64 t210, .slice Ao13 t211.length co13]] rfl (by (try simp only [List.map_toArray, List.map_cons, List.map_nil]); first | done | rfl | (simp only [List.length_drop, List.length_take]; rfl)) ?_; (with_reducible refine (spec_CircuitValid.calls k t210 _ _ t211 false _ ?side1 ?side2 A15.out).mono ?_); (case side1 => repeat (first | exact (Kd.R_reads' HO213.out).2.2 | (with_reducible refine Kd.C_alloc ?_ _) | (with_reducible refine Kd.C_drewN ?_ _) | (with_reducible refine Kd.C_drew ?_))); (case side2 => exact (Kd.R_reads' HO213.out).2.1); rintro e w45 ⟨rfl, hb⟩; refine ⟨_, rfl, ?_⟩; have n0_ := Yj (Kd.R_below (by (with_reducible repeat (first | apply Kd.R_alloc | apply Kd.R_drewN | apply Kd.R_drew)); exact HO213.out) hb); have n1_ := Yj (blk_below (g := gb206) (o := .cells #[.int .i64 0, .slice none 0 0] 36 (0, 0)) (by (with_reducible repeat (first | refine Ya ?_ _ | refine Yb ?_ | refine Yc ?_ _)); exact BK206.out) hb); have n2_ := Yj (IsS94.below (by repeat (first | (with_reducible first | exact HI209.out | apply IsS94.alloc | apply IsS94.drewN | apply IsS94.drew | apply IsS94.set_1 | refine IsS94.far ?_ NB209_206.out _ | refine IsS94.far ?_ NB209_215.out _) | exact HI209.out)) hb); have n3_ := Yj (blk_below (g := gb215) (o := .cells #[.int .i64 t210, .slice Ao13 t211.length co13] 36 (0, 0)) (by (with_reducible repeat (first | refine Ya ?_ _ | refine Yb ?_ | refine Yc ?_ _)); exact BK215.out) hb); have n4_ := Yj (below_step (by repeat (first | (with_reducible first | exact HB.out | apply Yf | apply Yg | apply Yh | refine Yi ?_ (IsS94.ge HI209.out) | refine Yi ?_ GE206.out | refine Yi ?_ GE215.out) | exact HB.out)) hb); clear HO213; clear BK206; clear HI209; clear BK215; clear HB; have HO213 := n0_; have BK206 := n1_; have HI209 := n2_; have BK215 := n3_; have HB := n4_; clear n0_ n1_ n2_ n3_ n4_; (try clear hb); (try clear hb2); (try clear hk); (try clear hi)))
   go_meet
   case rel => exact ⟨_, (false), (t217), (by first | rfl | (simp; done) | (simp [*]; done)), H', ⟨by first | omega | exact Nat.le_refl _⟩, ⟨by (with_reducible repeat (first | apply Kd.R_alloc | apply Kd.R_drewN | apply Kd.R_drew)); exact HO213.out⟩, ⟨by (with_reducible repeat (first | refine Ya ?_ _ | refine Yb ?_ | refine Yc ?_ _)); exact BK206.out⟩, ⟨by (with_reducible repeat (first | refine Ya ?_ _ | refine Yb ?_ | refine Yc ?_ _)); exact BK215.out⟩, ⟨by repeat (first | (with_reducible first | exact HI209.out | apply IsS94.alloc | apply IsS94.drewN | apply IsS94.drew | apply IsS94.set_1 | refine IsS94.far ?_ NB209_206.out _ | refine IsS94.far ?_ NB209_215.out _) | exact HI209.out)⟩, ⟨by repeat (first | (with_reducible first | exact HB.out | apply Yf | apply Yg | apply Yh | refine Yi ?_ (IsS94.ge HI209.out) | refine Yi ?_ GE206.out | refine Yi ?_ GE215.out) | exact HB.out)⟩⟩
 case rest =>
  clear HC5
  try clear c1
  try clear c2
  try clear p2
  try clear c3
  try clear c4
  try clear c10
  try clear c11
  try clear c15
  try clear c16
  try clear c18
  try clear c19
  try clear c19b0
  try clear c19b1
  try clear c21
  try clear c22
  try clear c29
  try clear c30
  try clear c31
  try clear c32
  try clear c33
  try clear c36
  try clear c37
  try clear c42
  try clear c43
  try clear hcz12_0
  try clear hcz12_1
  try clear hcz23_0
  try clear hcz23_1
  try clear hcz25_0
  try clear hcz25_1
  try clear hcz27_0
  try clear hcz27_1
  try clear hcz31_0
  try clear hcz31_1
  try clear hcz33_0
  try clear hcz33_1
  try clear hcz35_0
  try clear hcz35_1
  try clear hcz38_0
  try clear hcz38_1
  try clear hcz40_0
  try clear hcz40_1
  try clear hcz44_0
  try clear hcz44_1
  try clear hfz12_0
  try clear hfz12_1
  try clear hfz23_0
  try clear hfz23_1
  try clear hfz25_0
  try clear hfz25_1
  try clear hfz27_0
  try clear hfz27_1
  try clear hfz31_0
  try clear hfz31_1
  try clear hfz33_0
  try clear hfz33_1
  try clear hfz35_0
  try clear hfz35_1
  try clear hfz38_0
  try clear hfz38_1
  try clear hfz40_0
  try clear hfz40_1
  try clear hfz44_0
  try clear hfz44_1
  obtain ⟨kq, x40_4, x210001_4, rfl, HA, HJ4, HO_216001, BK206, BK215, HI209, HB⟩ := hcut
  cases kq with
  | zero => exact absurd HA.out (by simp [spec_DrawSameEdges.j0])
  | succ kj4 =>
   have H := HA.out
   clear HA
   simp only [spec_DrawSameEdges.j0] at H
   by_cases c46 : x40_4 = true
   ·subst c46
    have H1 : ((spec_l40Rd_pick.f kj4 t207 x210001_4 t210).bind fun bt222 => ((spec_l7Copy.f kj4 t210 t211).bind fun bt224 => ((spec_l7Pick.f bt224.1 bt224.2 (wrap64 (2 * (wrap64 (1 + bt222.1)))) t216 t216).bind fun bt228 => ((spec_l7And.f kj4 bt228.1 bt228.2.1 bt228.2.2 (wrap64 (2 * (wrap64 (1 + bt222.1))))).bind fun bt234 => ((spec_l7And.f kj4 bt234.1 bt234.2.1 bt228.2.2 (wrap64 ((wrap64 (2 * (wrap64 (1 + bt222.1)))) + 1))).bind fun bt240 => ((spec_l7Or.f kj4 bt240.1 bt240.2.1 bt234.2.2 bt240.2.2).bind fun bt246 => (some (bt246.1, bt246.2.1, t216, bt246.2.2)))))))) = some (r1, r2, r3, r4) := by rw [if_pos rfl] at H; exact H
    clear H
    have H := H1
    clear H1
    replace H := Yk H
    obtain ⟨⟨t222, t223⟩, A470, H⟩ := H
    replace H : ((spec_l7Copy.f kj4 t210 t211).bind fun bt224 => ((spec_l7Pick.f bt224.1 bt224.2 (wrap64 (2 * (wrap64 (1 + t222)))) t216 t216).bind fun bt228 => ((spec_l7And.f kj4 bt228.1 bt228.2.1 bt228.2.2 (wrap64 (2 * (wrap64 (1 + t222))))).bind fun bt234 => ((spec_l7And.f kj4 bt234.1 bt234.2.1 bt228.2.2 (wrap64 ((wrap64 (2 * (wrap64 (1 + t222)))) + 1))).bind fun bt240 => ((spec_l7Or.f kj4 bt240.1 bt240.2.1 bt234.2.2 bt240.2.2).bind fun bt246 => (some (bt246.1, bt246.2.1, t216, bt246.2.2))))))) = some (r1, r2, r3, r4) := H
    have A47 := Yj A470
    clear A470
    replace H := Yk H
    obtain ⟨⟨t224, t225⟩, A480, H⟩ := H
    replace H : ((spec_l7Pick.f t224 t225 (wrap64 (2 * (wrap64 (1 + t222)))) t216 t216).bind fun bt228 => ((spec_l7And.f kj4 bt228.1 bt228.2.1 bt228.2.2 (wrap64 (2 * (wrap64 (1 + t222))))).bind fun bt234 => ((spec_l7And.f kj4 bt234.1 bt234.2.1 bt228.2.2 (wrap64 ((wrap64 (2 * (wrap64 (1 + t222)))) + 1))).bind fun bt240 => ((spec_l7Or.f kj4 bt240.1 bt240.2.1 bt234.2.2 bt240.2.2).bind fun bt246 => (some (bt246.1, bt246.2.1, t216, bt246.2.2)))))) = some (r1, r2, r3, r4) := H
    have A48 := Yj A480
    clear A480
    replace H := Yk H
    obtain ⟨⟨t228, t229, t232⟩, A490, H⟩ := H
    replace H : ((spec_l7And.f kj4 t228 t229 t232 (wrap64 (2 * (wrap64 (1 + t222))))).bind fun bt234 => ((spec_l7And.f kj4 bt234.1 bt234.2.1 t232 (wrap64 ((wrap64 (2 * (wrap64 (1 + t222)))) + 1))).bind fun bt240 => ((spec_l7Or.f kj4 bt240.1 bt240.2.1 bt234.2.2 bt240.2.2).bind fun bt246 => (some (bt246.1, bt246.2.1, t216, bt246.2.2))))) = some (r1, r2, r3, r4) := H
    have A49 := Yj A490
    clear A490
    replace H := Yk H
    obtain ⟨⟨t234, t235, t238⟩, A500, H⟩ := H
    replace H : ((spec_l7And.f kj4 t234 t235 t232 (wrap64 ((wrap64 (2 * (wrap64 (1 + t222)))) + 1))).bind fun bt240 => ((spec_l7Or.f kj4 bt240.1 bt240.2.1 t238 bt240.2.2).bind fun bt246 => (some (bt246.1, bt246.2.1, t216, bt246.2.2)))) = some (r1, r2, r3, r4) := H
    have A50 := Yj A500
    clear A500
    replace H := Yk H
    obtain ⟨⟨t240, t241, t244⟩, A510, H⟩ := H
    replace H : ((spec_l7Or.f kj4 t240 t241 t238 t244).bind fun bt246 => (some (bt246.1, bt246.2.1, t216, bt246.2.2))) = some (r1, r2, r3, r4) := H
    have A51 := Yj A510
    clear A510
    replace H := Yk H
    obtain ⟨⟨t246, t247, t250⟩, A520, H⟩ := H
    replace H : (some (t246, t247, t216, t250)) = some (r1, r2, r3, r4) := H
    have A52 := Yj A520
    clear A520
    simp only [Option.some.injEq, Prod.mk.injEq] at H
    obtain ⟨rfl, rfl, rfl, rfl⟩ := H
    have hnb53 := NB215_206.out
    have hnc53 := NB206_215.out
    have hnb54 := NB215_209.out
    have hnc54 := NB209_215.out
    have hcz55_0 : wc.cell? ⟨gb215, 0, none⟩ = some (.int .i64 t210) := (Yd BK215.out 0).trans rfl
    have hcz55_1 : wc.cell? ⟨gb215, 1, none⟩ = some (.slice Ao13 t211.length co13) := (Yd BK215.out 1).trans rfl
    have hfz55_0 := Ye BK215.out 0
    have hfz55_1 := Ye BK215.out 1
    go_wp2_with (first | ((with_reducible refine gate_callee (f := 35) rfl ?_); refine goesL_ (some 44) rfl rfl Try.func35 (by kernel_rfl) rfl #[.pointer (some ⟨g209, 0, none⟩), .int .i64 t210] rfl (by (try simp only [List.map_toArray, List.map_cons, List.map_nil]); first | done | rfl | (simp only [List.length_drop, List.length_take]; rfl)) ?_; (with_reducible refine (spec_l40Rd_pick.calls kj4 g209 t207 x210001_4 t210 t222 t223 w _ ?side1 ?side2 A47.out).mono ?_); (case side1 => repeat (first | (with_reducible first | exact HI209.out | apply IsS94.alloc | apply IsS94.drewN | apply IsS94.drew | apply IsS94.set_1 | refine IsS94.far ?_ NB209_206.out _ | refine IsS94.far ?_ NB209_215.out _) | exact HI209.out)); (case side2 => repeat (first | (with_reducible first | exact HB.out | apply Yf | apply Yg | apply Yh | refine Yi ?_ (IsS94.ge HI209.out) | refine Yi ?_ GE206.out | refine Yi ?_ GE215.out) | exact HB.out)); rintro e w56 ⟨rfl, hi, hb, hk⟩; refine ⟨_, rfl, ?_⟩; have n0_ := Yj (Kd.R_mono (Kd.R_keep (IsS94.apart (show IsS94 w _ g209 t207 x210001_4 from by repeat (first | (with_reducible first | exact HI209.out | apply IsS94.alloc | apply IsS94.drewN | apply IsS94.drew | apply IsS94.set_1 | refine IsS94.far ?_ NB209_206.out _ | refine IsS94.far ?_ NB209_215.out _) | exact HI209.out)) (by (with_reducible repeat (first | apply Kd.R_alloc | apply Kd.R_drewN | apply Kd.R_drew)); exact HO_216001.out) (by decide)) hk (fun _ h => h.2)) (fun _ h => h.1)); have n1_ := Yj (KeepBut.blk hk (g' := gb206) (o := .cells #[.int .i64 0, .slice none 0 0] 36 (0, 0)) (by (with_reducible repeat (first | refine Ya ?_ _ | refine Yb ?_ | refine Yc ?_ _)); exact BK206.out) NB206_209.out (by simp)); have n2_ := Yj (KeepBut.blk hk (g' := gb215) (o := .cells #[.int .i64 t210, .slice Ao13 t211.length co13] 36 (0, 0)) (by (with_reducible repeat (first | refine Ya ?_ _ | refine Yb ?_ | refine Yc ?_ _)); exact BK215.out) NB215_209.out (by simp)); have n3_ := Yj (hb); have n4_ := Yj (hi); clear HO_216001; clear BK206; clear BK215; clear HB; clear HI209; have HO_216001 := n0_; have BK206 := n1_; have BK215 := n2_; have HB := n3_; have HI209 := n4_; clear n0_ n1_ n2_ n3_ n4_; (try clear hb); (try clear hb2); (try clear hk); (try clear hi); have hcz57_0 : w56.cell? ⟨gb215, 0, none⟩ = some (.int .i64 t210) := (Yd BK215.out 0).trans rfl; have hcz57_1 : w56.cell? ⟨gb215, 1, none⟩ = some (.slice Ao13 t211.length co13) := (Yd BK215.out 1).trans rfl; have hfz57_0 := Ye BK215.out 0; have hfz57_1 := Ye BK215.out 1) | ((with_reducible refine gate_callee (f := 37) rfl ?_); refine goesL_ (some 49) rfl rfl Try.func37 (by kernel_rfl) rfl #[.agg #[.int .i64 t210, .slice Ao13 t211.length co13]] rfl (by (try simp only [List.map_toArray, List.map_cons, List.map_nil]); first | done | rfl | (simp only [List.length_drop, List.length_take]; rfl)) ?_; (with_reducible refine (spec_l7Copy.calls kj4 t210 _ _ t211 t224 t225 _ ?side1 ?side2 A48.out).mono ?_); (case side1 => repeat (first | exact (Kd.R_reads' HO_216001.out).2.2 | (with_reducible refine Kd.C_alloc ?_ _) | (with_reducible refine Kd.C_drewN ?_ _) | (with_reducible refine Kd.C_drew ?_))); (case side2 => exact (Kd.R_reads' HO_216001.out).2.1); rintro e w58 ⟨v226, rfl, ho0, hb⟩; refine ⟨_, rfl, ?_⟩; have n0_ := Yj (Kd.R_elder' (by (with_reducible repeat (first | apply Kd.R_alloc | apply Kd.R_drewN | apply Kd.R_drew)); exact HO_216001.out) (Kd.R_base ho0) hb); have n1_ := Yj (Kd.R_lower (Kd.R_new' ho0 (Kd.R_lt (by (with_reducible repeat (first | apply Kd.R_alloc | apply Kd.R_drewN | apply Kd.R_drew)); exact HO_216001.out))) (below_size (by repeat (first | (with_reducible first | exact HB.out | apply Yf | apply Yg | apply Yh | refine Yi ?_ (IsS94.ge HI209.out) | refine Yi ?_ GE206.out | refine Yi ?_ GE215.out) | exact HB.out)))); have n2_ := Yj (blk_below (g := gb206) (o := .cells #[.int .i64 0, .slice none 0 0] 36 (0, 0)) (by (with_reducible repeat (first | refine Ya ?_ _ | refine Yb ?_ | refine Yc ?_ _)); exact BK206.out) hb); have n3_ := Yj (blk_below (g := gb215) (o := .cells #[.int .i64 t210, .slice Ao13 t211.length co13] 36 (0, 0)) (by (with_reducible repeat (first | refine Ya ?_ _ | refine Yb ?_ | refine Yc ?_ _)); exact BK215.out) hb); have n4_ := Yj (IsS94.below (by repeat (first | (with_reducible first | exact HI209.out | apply IsS94.alloc | apply IsS94.drewN | apply IsS94.drew | apply IsS94.set_1 | refine IsS94.far ?_ NB209_206.out _ | refine IsS94.far ?_ NB209_215.out _) | exact HI209.out)) hb); have n5_ := Yj (below_step (by repeat (first | (with_reducible first | exact HB.out | apply Yf | apply Yg | apply Yh | refine Yi ?_ (IsS94.ge HI209.out) | refine Yi ?_ GE206.out | refine Yi ?_ GE215.out) | exact HB.out)) hb); clear HO_216001; clear BK206; clear BK215; clear HI209; clear HB; have HO_216001 := n0_; have HO227 := n1_; have BK206 := n2_; have BK215 := n3_; have HI209 := n4_; have HB := n5_; clear n0_ n1_ n2_ n3_ n4_ n5_; (try clear hb); (try clear hb2); (try clear hk); (try clear hi); (try clear ho0); obtain ⟨Ao59, co59, eo59⟩ := Kd.R_slice HO227.out; subst eo59) | ((with_reducible refine gate_callee (f := 36) rfl ?_); refine goesL_ (some 53) rfl rfl Try.func36 (by kernel_rfl) rfl #[.agg #[.int .i64 t224, .slice Ao59 t225.length co59], .int .i64 (wrap64 (2 * (wrap64 (1 + t222)))), .int .i64 t216, .int .i64 t216] rfl (by (try simp only [List.map_toArray, List.map_cons, List.map_nil]); first | done | rfl | (simp only [List.length_drop, List.length_take]; rfl)) ?_; (with_reducible refine (spec_l7Pick.calls t224 (fun k_ => some k_ = (.slice Ao59 t225.length co59 : Value).ownBlock) (.slice Ao59 t225.length co59) t225 (wrap64 (2 * (wrap64 (1 + t222)))) t216 t216 t228 t229 t232 w _ ?side1 ?side2 A49.out).mono ?_); (case side1 => repeat (first | (with_reducible first | exact HB.out | apply Yf | apply Yg | apply Yh | refine Yi ?_ (IsS94.ge HI209.out) | refine Yi ?_ GE206.out | refine Yi ?_ GE215.out) | exact HB.out)); (case side2 => exact Kd.R_tight rfl HO227.out); rintro e w60 ⟨v230, rfl, ho0, hb, hkp⟩; refine ⟨_, rfl, ?_⟩; have n0_ := Yj (Kd.R_mono (ok' := fun k_ => some k_ ≠ (v230 : Value).ownBlock) (Kd.R_keptB (HO_216001.out) hkp (fun k_ hk_ hs_ => (hk_.2) hs_)) (fun k_ hk_ => fun e_ => Or.elim (ho0.1 k_ e_.symm) (fun hs_ => hk_.2.1 hs_) (fun hn_ => Nat.not_le.2 hk_.2.2 hn_))); have n1_ := Yj (blk_kept (by (with_reducible repeat (first | refine Ya ?_ _ | refine Yb ?_ | refine Yc ?_ _)); exact BK206.out) hkp (fun hs_ => (fun e_ => (Kd.R_ne HO227.out BK206.out (by decide)) e_) hs_)); have n2_ := Yj (blk_kept (by (with_reducible repeat (first | refine Ya ?_ _ | refine Yb ?_ | refine Yc ?_ _)); exact BK215.out) hkp (fun hs_ => (fun e_ => (Kd.R_ne HO227.out BK215.out (by decide)) e_) hs_)); have n3_ := Yj (IsS94.kept (by repeat (first | (with_reducible first | exact HI209.out | apply IsS94.alloc | apply IsS94.drewN | apply IsS94.drew | apply IsS94.set_1 | refine IsS94.far ?_ NB209_206.out _ | refine IsS94.far ?_ NB209_215.out _) | exact HI209.out)) hkp (fun hs_ => (fun e_ => (IsS94.own_ne HI209.out HO227.out (by decide)) e_) hs_)); have n4_ := Yj (Kd.R_mono (ok' := fun k_ => some k_ ≠ (.slice Ao13 t211.length co13 : Value).ownBlock) ho0 (fun k_ hk_ => Or.elim hk_ (fun hs_ => fun e_ => (((HO_216001.out).1 k_ e_.symm).2) hs_) (fun hn_ => (Kd.fresh' (Kd.R_lt (by (with_reducible repeat (first | apply Kd.R_alloc | apply Kd.R_drewN | apply Kd.R_drew)); exact HO_216001.out)) k_ hn_)))); have n5_ := Yj (hb); clear HO_216001; clear BK206; clear BK215; clear HI209; clear HB; clear HO227; have HO_216001 := n0_; have BK206 := n1_; have BK215 := n2_; have HI209 := n3_; have HO231 := n4_; have HB := n5_; clear n0_ n1_ n2_ n3_ n4_ n5_; (try clear hb); (try clear hkp); (try clear ho0)) | ((with_reducible refine gate_dst (N := 9) rfl ?_); refine box_event ?hg (N := 9) ?hd (cs := #[.int .i64 0, .slice none 0 0]) (t := 36) ?hr ?_; (case hd => rfl); (case hg => rfl); (case hr => first | (go_simp; done) | (go_simp; rfl)); intro gb233 hg w61 hbox hb; have n0_ := Yj (Kd.R_below (by (with_reducible repeat (first | apply Kd.R_alloc | apply Kd.R_drewN | apply Kd.R_drew)); exact HO_216001.out) hb); have n1_ := Yj (Kd.R_below (by (with_reducible repeat (first | apply Kd.R_alloc | apply Kd.R_drewN | apply Kd.R_drew)); exact HO231.out) hb); have n2_ := Yj (blk_below (g := gb206) (o := .cells #[.int .i64 0, .slice none 0 0] 36 (0, 0)) (by (with_reducible repeat (first | refine Ya ?_ _ | refine Yb ?_ | refine Yc ?_ _)); exact BK206.out) hb); have n3_ := Yj (blk_below (g := gb215) (o := .cells #[.int .i64 t210, .slice Ao13 t211.length co13] 36 (0, 0)) (by (with_reducible repeat (first | refine Ya ?_ _ | refine Yb ?_ | refine Yc ?_ _)); exact BK215.out) hb); have n4_ := Yj (IsS94.below (by repeat (first | (with_reducible first | exact HI209.out | apply IsS94.alloc | apply IsS94.drewN | apply IsS94.drew | apply IsS94.set_1 | refine IsS94.far ?_ NB209_206.out _ | refine IsS94.far ?_ NB209_215.out _) | exact HI209.out)) hb); have n5_ := Yj (below_step (by repeat (first | (with_reducible first | exact HB.out | apply Yf | apply Yg | apply Yh | refine Yi ?_ (IsS94.ge HI209.out) | refine Yi ?_ GE206.out | refine Yi ?_ GE215.out) | exact HB.out)) hb); have n6_ := Yj (hbox); have n7_ := Yj ((by rw [hg]; exact (below_size (by repeat (first | (with_reducible first | exact HB.out | apply Yf | apply Yg | apply Yh | refine Yi ?_ (IsS94.ge HI209.out) | refine Yi ?_ GE206.out | refine Yi ?_ GE215.out) | exact HB.out))) : w.heap.size ≤ gb233)); have n8_ := Yj ((by rw [hg]; exact (below_size (by repeat (first | (with_reducible first | exact HB.out | apply Yf | apply Yg | apply Yh | refine Yi ?_ (IsS94.ge HI209.out) | refine Yi ?_ GE206.out | refine Yi ?_ GE215.out) | exact HB.out))) : w.heap.size ≤ gb233)); have n9_ := Yj ((by rw [hg]; exact Nat.ne_of_lt (blk_lt (g := gb206) (o := .cells #[.int .i64 0, .slice none 0 0] 36 (0, 0)) (by (with_reducible repeat (first | refine Ya ?_ _ | refine Yb ?_ | refine Yc ?_ _)); exact BK206.out)) : gb206 ≠ gb233)); have n10_ := Yj ((by rw [hg]; exact Nat.ne_of_gt (blk_lt (g := gb206) (o := .cells #[.int .i64 0, .slice none 0 0] 36 (0, 0)) (by (with_reducible repeat (first | refine Ya ?_ _ | refine Yb ?_ | refine Yc ?_ _)); exact BK206.out)) : gb233 ≠ gb206)); have n11_ := Yj ((by rw [hg]; exact Nat.ne_of_lt (blk_lt (g := gb215) (o := .cells #[.int .i64 t210, .slice Ao13 t211.length co13] 36 (0, 0)) (by (with_reducible repeat (first | refine Ya ?_ _ | refine Yb ?_ | refine Yc ?_ _)); exact BK215.out)) : gb215 ≠ gb233)); have n12_ := Yj ((by rw [hg]; exact Nat.ne_of_gt (blk_lt (g := gb215) (o := .cells #[.int .i64 t210, .slice Ao13 t211.length co13] 36 (0, 0)) (by (with_reducible repeat (first | refine Ya ?_ _ | refine Yb ?_ | refine Yc ?_ _)); exact BK215.out)) : gb233 ≠ gb215)); have n13_ := Yj ((by rw [hg]; exact Nat.ne_of_lt (IsS94.lt (show IsS94 w _ g209 t207 t223 from by repeat (first | (with_reducible first | exact HI209.out | apply IsS94.alloc | apply IsS94.drewN | apply IsS94.drew | apply IsS94.set_1 | refine IsS94.far ?_ NB209_206.out _ | refine IsS94.far ?_ NB209_215.out _) | exact HI209.out))) : g209 ≠ gb233)); have n14_ := Yj ((by rw [hg]; exact Nat.ne_of_gt (IsS94.lt (show IsS94 w _ g209 t207 t223 from by repeat (first | (with_reducible first | exact HI209.out | apply IsS94.alloc | apply IsS94.drewN | apply IsS94.drew | apply IsS94.set_1 | refine IsS94.far ?_ NB209_206.out _ | refine IsS94.far ?_ NB209_215.out _) | exact HI209.out))) : gb233 ≠ g209)); clear HO_216001; clear HO231; clear BK206; clear BK215; clear HI209; clear HB; have HO_216001 := n0_; have HO231 := n1_; have BK206 := n2_; have BK215 := n3_; have HI209 := n4_; have HB := n5_; have BK233 := n6_; have GW233 := n7_; have GE233 := n8_; have NB206_233 := n9_; have NB233_206 := n10_; have NB215_233 := n11_; have NB233_215 := n12_; have NB209_233 := n13_; have NB233_209 := n14_; clear n0_ n1_ n2_ n3_ n4_ n5_ n6_ n7_ n8_ n9_ n10_ n11_ n12_ n13_ n14_; clear hb hbox hg; have hnb62 := NB233_206.out; have hnc62 := NB206_233.out; have hnb63 := NB233_215.out; have hnc63 := NB215_233.out; have hnb64 := NB233_209.out; have hnc64 := NB209_233.out; have hcz65_0 : w61.cell? ⟨gb233, 0, none⟩ = some (.int .i64 0) := (Yd BK233.out 0).trans rfl; have hcz65_1 : w61.cell? ⟨gb233, 1, none⟩ = some (.slice none 0 0) := (Yd BK233.out 1).trans rfl; have hfz65_0 := Ye BK233.out 0; have hfz65_1 := Ye BK233.out 1; obtain ⟨Ao66, co66, eo66⟩ := Kd.R_slice HO231.out; subst eo66) | ((with_reducible refine gate_store (t := 36) (p := 9) rfl ?_); refine store_event (t := 36) (p := 9) (v := ?vo_w67) (w1 := ((w61.setCell ⟨gb233, 0, none⟩ (.int .i64 t228)).setCell ⟨gb233, 1, none⟩ (.slice Ao66 t229.length co66))) ?hg ?ho ?hn ?hr ?_; (case ho => rfl); (case hg => rfl); (case hn => rfl); (case hr => first | (go_simp; done) | (go_simp; rfl)); intro w67 hw; have n0_ : Aside0 (Kd.R k73 73 w67 w.heap.size (fun k_ => some k_ ≠ (.slice Ao66 t229.length co66 : Value).ownBlock) (.slice Ao13 t211.length co13) t211) := ⟨(by rw [hw]; exact (by (with_reducible repeat (first | apply Kd.R_alloc | apply Kd.R_drewN | apply Kd.R_drew)); exact Kd.R_mono (Kd.R_far (p := ⟨gb233, 1, none⟩) (Kd.R_far (p := ⟨gb233, 0, none⟩) (Kd.R_types HO_216001.out BK233.out (by decide)) (fun _ hk => hk.2) (.int .i64 t228)) (fun _ hk => hk.2) (.slice Ao66 t229.length co66)) (fun _ hk => hk.1)))⟩; have n1_ : Aside0 (Kd.R k73 73 w67 w.heap.size (fun k_ => some k_ ≠ (.slice Ao13 t211.length co13 : Value).ownBlock) (.slice Ao66 t229.length co66) t229) := ⟨(by rw [hw]; exact (by (with_reducible repeat (first | apply Kd.R_alloc | apply Kd.R_drewN | apply Kd.R_drew)); exact Kd.R_mono (Kd.R_far (p := ⟨gb233, 1, none⟩) (Kd.R_far (p := ⟨gb233, 0, none⟩) (Kd.R_types HO231.out BK233.out (by decide)) (fun _ hk => hk.2) (.int .i64 t228)) (fun _ hk => hk.2) (.slice Ao66 t229.length co66)) (fun _ hk => hk.1)))⟩; have n2_ : Aside0 (w67.heap[gb206]? = some (.cells #[.int .i64 0, .slice none 0 0] 36 (0, 0))) := ⟨(by rw [hw]; exact (by (with_reducible repeat (first | refine Ya ?_ _ | refine Yb ?_ | refine Yc ?_ _)); refine blk_far ?_ NB206_233.out _; (with_reducible repeat (first | refine Ya ?_ _ | refine Yb ?_ | refine Yc ?_ _)); refine blk_far ?_ NB206_233.out _; (with_reducible repeat (first | refine Ya ?_ _ | refine Yb ?_ | refine Yc ?_ _)); exact BK206.out))⟩; have n3_ : Aside0 (w67.heap[gb215]? = some (.cells #[.int .i64 t210, .slice Ao13 t211.length co13] 36 (0, 0))) := ⟨(by rw [hw]; exact (by (with_reducible repeat (first | refine Ya ?_ _ | refine Yb ?_ | refine Yc ?_ _)); refine blk_far ?_ NB215_233.out _; (with_reducible repeat (first | refine Ya ?_ _ | refine Yb ?_ | refine Yc ?_ _)); refine blk_far ?_ NB215_233.out _; (with_reducible repeat (first | refine Ya ?_ _ | refine Yb ?_ | refine Yc ?_ _)); exact BK215.out))⟩; have n4_ : Aside0 (w67.heap[gb233]? = some (.cells #[.int .i64 t228, .slice Ao66 t229.length co66] 36 (0, 0))) := ⟨(by rw [hw]; exact (by (with_reducible repeat (first | refine Ya ?_ _ | refine Yb ?_ | refine Yc ?_ _)); refine blk_put (cs := #[.int .i64 t228, .slice none 0 0]) ?_ 1 _ rfl; (with_reducible repeat (first | refine Ya ?_ _ | refine Yb ?_ | refine Yc ?_ _)); refine blk_put (cs := #[.int .i64 0, .slice none 0 0]) ?_ 0 _ rfl; (with_reducible repeat (first | refine Ya ?_ _ | refine Yb ?_ | refine Yc ?_ _)); exact BK233.out))⟩; have n5_ : Aside0 (IsS94 w w67 g209 t207 t223) := ⟨(by rw [hw]; exact (by repeat (first | (with_reducible first | exact HI209.out | apply IsS94.alloc | apply IsS94.drewN | apply IsS94.drew | apply IsS94.set_1 | refine IsS94.far ?_ NB209_206.out _ | refine IsS94.far ?_ NB209_215.out _ | refine IsS94.far ?_ NB209_233.out _) | exact HI209.out)))⟩; have n6_ : Aside0 (Below w.heap.size w w67) := ⟨(by rw [hw]; exact (by repeat (first | (with_reducible first | exact HB.out | apply Yf | apply Yg | apply Yh | refine Yi ?_ (IsS94.ge HI209.out) | refine Yi ?_ GE206.out | refine Yi ?_ GE215.out | refine Yi ?_ GE233.out) | exact HB.out)))⟩; clear hw; clear HO_216001; clear HO231; clear BK206; clear BK215; clear BK233; clear HI209; clear HB; have HO_216001 := n0_; have HO231 := n1_; have BK206 := n2_; have BK215 := n3_; have BK233 := n4_; have HI209 := n5_; have HB := n6_; clear n0_ n1_ n2_ n3_ n4_ n5_ n6_; have hcz68_0 : w67.cell? ⟨gb233, 0, none⟩ = some (.int .i64 t228) := (Yd BK233.out 0).trans rfl; have hcz68_1 : w67.cell? ⟨gb233, 1, none⟩ = some (.slice Ao66 t229.length co66) := (Yd BK233.out 1).trans rfl; have hfz68_0 := Ye BK233.out 0; have hfz68_1 := Ye BK233.out 1) | ((with_reducible refine gate_callee (f := 38) rfl ?_); refine goesL_ (some 60) rfl rfl Try.func38 (by kernel_rfl) rfl #[.agg #[.int .i64 t228, .slice Ao66 t229.length co66], .int .i64 t232, .int .i64 (wrap64 (2 * (wrap64 (1 + t222))))] rfl (by (try simp only [List.map_toArray, List.map_cons, List.map_nil]); first | done | rfl | (simp only [List.length_drop, List.length_take]; rfl)) ?_; (with_reducible refine (spec_l7And.calls kj4 t228 (fun k_ => some k_ = (.slice Ao66 t229.length co66 : Value).ownBlock) (.slice Ao66 t229.length co66) t229 t232 (wrap64 (2 * (wrap64 (1 + t222)))) t234 t235 t238 w _ ?side1 ?side2 A50.out).mono ?_); (case side1 => repeat (first | (with_reducible first | exact HB.out | apply Yf | apply Yg | apply Yh | refine Yi ?_ (IsS94.ge HI209.out) | refine Yi ?_ GE206.out | refine Yi ?_ GE215.out | refine Yi ?_ GE233.out) | exact HB.out)); (case side2 => exact Kd.R_tight rfl HO231.out); rintro e w69 ⟨v236, rfl, ho0, hb, hkp⟩; refine ⟨_, rfl, ?_⟩; have n0_ := Yj (Kd.R_mono (ok' := fun k_ => some k_ ≠ (v236 : Value).ownBlock) (Kd.R_keptB (HO_216001.out) hkp (fun k_ hk_ hs_ => (hk_) hs_)) (fun k_ hk_ => fun e_ => Or.elim (ho0.1 k_ e_.symm) (fun hs_ => hk_.2.1 hs_) (fun hn_ => Nat.not_le.2 hk_.2.2 hn_))); have n1_ := Yj (blk_kept (by (with_reducible repeat (first | refine Ya ?_ _ | refine Yb ?_ | refine Yc ?_ _)); exact BK206.out) hkp (fun hs_ => (fun e_ => (Kd.R_ne HO231.out BK206.out (by decide)) e_) hs_)); have n2_ := Yj (blk_kept (by (with_reducible repeat (first | refine Ya ?_ _ | refine Yb ?_ | refine Yc ?_ _)); exact BK215.out) hkp (fun hs_ => (fun e_ => (Kd.R_ne HO231.out BK215.out (by decide)) e_) hs_)); have n3_ := Yj (IsS94.kept (by repeat (first | (with_reducible first | exact HI209.out | apply IsS94.alloc | apply IsS94.drewN | apply IsS94.drew | apply IsS94.set_1 | refine IsS94.far ?_ NB209_206.out _ | refine IsS94.far ?_ NB209_215.out _ | refine IsS94.far ?_ NB209_233.out _) | exact HI209.out)) hkp (fun hs_ => (fun e_ => (IsS94.own_ne HI209.out HO231.out (by decide)) e_) hs_)); have n4_ := Yj (blk_kept (by (with_reducible repeat (first | refine Ya ?_ _ | refine Yb ?_ | refine Yc ?_ _)); exact BK233.out) hkp (fun hs_ => (fun e_ => (Kd.R_ne HO231.out BK233.out (by decide)) e_) hs_)); have n5_ := Yj (Kd.R_mono (ok' := fun k_ => some k_ ≠ (.slice Ao13 t211.length co13 : Value).ownBlock) ho0 (fun k_ hk_ => Or.elim hk_ (fun hs_ => fun e_ => (((HO_216001.out).1 k_ e_.symm)) hs_) (fun hn_ => (Kd.fresh' (Kd.R_lt (by (with_reducible repeat (first | apply Kd.R_alloc | apply Kd.R_drewN | apply Kd.R_drew)); exact HO_216001.out)) k_ hn_)))); have n6_ := Yj (hb); clear HO_216001; clear BK206; clear BK215; clear HI209; clear BK233; clear HB; clear HO231; have HO_216001 := n0_; have BK206 := n1_; have BK215 := n2_; have HI209 := n3_; have BK233 := n4_; have HO237 := n5_; have HB := n6_; clear n0_ n1_ n2_ n3_ n4_ n5_ n6_; (try clear hb); (try clear hkp); (try clear ho0)) | ((with_reducible refine gate_dst (N := 11) rfl ?_); refine box_event ?hg (N := 11) ?hd (cs := #[.int .i64 0, .slice none 0 0]) (t := 36) ?hr ?_; (case hd => rfl); (case hg => rfl); (case hr => first | (go_simp; done) | (go_simp; rfl)); intro gb239 hg w70 hbox hb; have n0_ := Yj (Kd.R_below (by (with_reducible repeat (first | apply Kd.R_alloc | apply Kd.R_drewN | apply Kd.R_drew)); exact HO_216001.out) hb); have n1_ := Yj (Kd.R_below (by (with_reducible repeat (first | apply Kd.R_alloc | apply Kd.R_drewN | apply Kd.R_drew)); exact HO237.out) hb); have n2_ := Yj (blk_below (g := gb206) (o := .cells #[.int .i64 0, .slice none 0 0] 36 (0, 0)) (by (with_reducible repeat (first | refine Ya ?_ _ | refine Yb ?_ | refine Yc ?_ _)); exact BK206.out) hb); have n3_ := Yj (blk_below (g := gb215) (o := .cells #[.int .i64 t210, .slice Ao13 t211.length co13] 36 (0, 0)) (by (with_reducible repeat (first | refine Ya ?_ _ | refine Yb ?_ | refine Yc ?_ _)); exact BK215.out) hb); have n4_ := Yj (IsS94.below (by repeat (first | (with_reducible first | exact HI209.out | apply IsS94.alloc | apply IsS94.drewN | apply IsS94.drew | apply IsS94.set_1 | refine IsS94.far ?_ NB209_206.out _ | refine IsS94.far ?_ NB209_215.out _ | refine IsS94.far ?_ NB209_233.out _) | exact HI209.out)) hb); have n5_ := Yj (blk_below (g := gb233) (o := .cells #[.int .i64 t228, .slice Ao66 t229.length co66] 36 (0, 0)) (by (with_reducible repeat (first | refine Ya ?_ _ | refine Yb ?_ | refine Yc ?_ _)); exact BK233.out) hb); have n6_ := Yj (below_step (by repeat (first | (with_reducible first | exact HB.out | apply Yf | apply Yg | apply Yh | refine Yi ?_ (IsS94.ge HI209.out) | refine Yi ?_ GE206.out | refine Yi ?_ GE215.out | refine Yi ?_ GE233.out) | exact HB.out)) hb); have n7_ := Yj (hbox); have n8_ := Yj ((by rw [hg]; exact (below_size (by repeat (first | (with_reducible first | exact HB.out | apply Yf | apply Yg | apply Yh | refine Yi ?_ (IsS94.ge HI209.out) | refine Yi ?_ GE206.out | refine Yi ?_ GE215.out | refine Yi ?_ GE233.out) | exact HB.out))) : w.heap.size ≤ gb239)); have n9_ := Yj ((by rw [hg]; exact (below_size (by repeat (first | (with_reducible first | exact HB.out | apply Yf | apply Yg | apply Yh | refine Yi ?_ (IsS94.ge HI209.out) | refine Yi ?_ GE206.out | refine Yi ?_ GE215.out | refine Yi ?_ GE233.out) | exact HB.out))) : w.heap.size ≤ gb239)); have n10_ := Yj ((by rw [hg]; exact Nat.ne_of_lt (blk_lt (g := gb206) (o := .cells #[.int .i64 0, .slice none 0 0] 36 (0, 0)) (by (with_reducible repeat (first | refine Ya ?_ _ | refine Yb ?_ | refine Yc ?_ _)); exact BK206.out)) : gb206 ≠ gb239)); have n11_ := Yj ((by rw [hg]; exact Nat.ne_of_gt (blk_lt (g := gb206) (o := .cells #[.int .i64 0, .slice none 0 0] 36 (0, 0)) (by (with_reducible repeat (first | refine Ya ?_ _ | refine Yb ?_ | refine Yc ?_ _)); exact BK206.out)) : gb239 ≠ gb206)); have n12_ := Yj ((by rw [hg]; exact Nat.ne_of_lt (blk_lt (g := gb215) (o := .cells #[.int .i64 t210, .slice Ao13 t211.length co13] 36 (0, 0)) (by (with_reducible repeat (first | refine Ya ?_ _ | refine Yb ?_ | refine Yc ?_ _)); exact BK215.out)) : gb215 ≠ gb239)); have n13_ := Yj ((by rw [hg]; exact Nat.ne_of_gt (blk_lt (g := gb215) (o := .cells #[.int .i64 t210, .slice Ao13 t211.length co13] 36 (0, 0)) (by (with_reducible repeat (first | refine Ya ?_ _ | refine Yb ?_ | refine Yc ?_ _)); exact BK215.out)) : gb239 ≠ gb215)); have n14_ := Yj ((by rw [hg]; exact Nat.ne_of_lt (blk_lt (g := gb233) (o := .cells #[.int .i64 t228, .slice Ao66 t229.length co66] 36 (0, 0)) (by (with_reducible repeat (first | refine Ya ?_ _ | refine Yb ?_ | refine Yc ?_ _)); exact BK233.out)) : gb233 ≠ gb239)); have n15_ := Yj ((by rw [hg]; exact Nat.ne_of_gt (blk_lt (g := gb233) (o := .cells #[.int .i64 t228, .slice Ao66 t229.length co66] 36 (0, 0)) (by (with_reducible repeat (first | refine Ya ?_ _ | refine Yb ?_ | refine Yc ?_ _)); exact BK233.out)) : gb239 ≠ gb233)); have n16_ := Yj ((by rw [hg]; exact Nat.ne_of_lt (IsS94.lt (show IsS94 w _ g209 t207 t223 from by repeat (first | (with_reducible first | exact HI209.out | apply IsS94.alloc | apply IsS94.drewN | apply IsS94.drew | apply IsS94.set_1 | refine IsS94.far ?_ NB209_206.out _ | refine IsS94.far ?_ NB209_215.out _ | refine IsS94.far ?_ NB209_233.out _) | exact HI209.out))) : g209 ≠ gb239)); have n17_ := Yj ((by rw [hg]; exact Nat.ne_of_gt (IsS94.lt (show IsS94 w _ g209 t207 t223 from by repeat (first | (with_reducible first | exact HI209.out | apply IsS94.alloc | apply IsS94.drewN | apply IsS94.drew | apply IsS94.set_1 | refine IsS94.far ?_ NB209_206.out _ | refine IsS94.far ?_ NB209_215.out _ | refine IsS94.far ?_ NB209_233.out _) | exact HI209.out))) : gb239 ≠ g209)); clear HO_216001; clear HO237; clear BK206; clear BK215; clear HI209; clear BK233; clear HB; have HO_216001 := n0_; have HO237 := n1_; have BK206 := n2_; have BK215 := n3_; have HI209 := n4_; have BK233 := n5_; have HB := n6_; have BK239 := n7_; have GW239 := n8_; have GE239 := n9_; have NB206_239 := n10_; have NB239_206 := n11_; have NB215_239 := n12_; have NB239_215 := n13_; have NB233_239 := n14_; have NB239_233 := n15_; have NB209_239 := n16_; have NB239_209 := n17_; clear n0_ n1_ n2_ n3_ n4_ n5_ n6_ n7_ n8_ n9_ n10_ n11_ n12_ n13_ n14_ n15_ n16_ n17_; clear hb hbox hg; have hnb71 := NB239_206.out; have hnc71 := NB206_239.out; have hnb72 := NB239_215.out; have hnc72 := NB215_239.out; have hnb73 := NB239_233.out; have hnc73 := NB233_239.out; have hnb74 := NB239_209.out; have hnc74 := NB209_239.out; have hcz75_0 : w70.cell? ⟨gb239, 0, none⟩ = some (.int .i64 0) := (Yd BK239.out 0).trans rfl; have hcz75_1 : w70.cell? ⟨gb239, 1, none⟩ = some (.slice none 0 0) := (Yd BK239.out 1).trans rfl; have hfz75_0 := Ye BK239.out 0; have hfz75_1 := Ye BK239.out 1; obtain ⟨Ao76, co76, eo76⟩ := Kd.R_slice HO237.out; subst eo76) | ((with_reducible refine gate_store (t := 36) (p := 11) rfl ?_); refine store_event (t := 36) (p := 11) (v := ?vo_w77) (w1 := ((w70.setCell ⟨gb239, 0, none⟩ (.int .i64 t234)).setCell ⟨gb239, 1, none⟩ (.slice Ao76 t235.length co76))) ?hg ?ho ?hn ?hr ?_; (case ho => rfl); (case hg => rfl); (case hn => rfl); (case hr => first | (go_simp; done) | (go_simp; rfl)); intro w77 hw; have n0_ : Aside0 (Kd.R k73 73 w77 w.heap.size (fun k_ => some k_ ≠ (.slice Ao76 t235.length co76 : Value).ownBlock) (.slice Ao13 t211.length co13) t211) := ⟨(by rw [hw]; exact (by (with_reducible repeat (first | apply Kd.R_alloc | apply Kd.R_drewN | apply Kd.R_drew)); exact Kd.R_mono (Kd.R_far (p := ⟨gb239, 1, none⟩) (Kd.R_far (p := ⟨gb239, 0, none⟩) (Kd.R_types HO_216001.out BK239.out (by decide)) (fun _ hk => hk.2) (.int .i64 t234)) (fun _ hk => hk.2) (.slice Ao76 t235.length co76)) (fun _ hk => hk.1)))⟩; have n1_ : Aside0 (Kd.R k73 73 w77 w.heap.size (fun k_ => some k_ ≠ (.slice Ao13 t211.length co13 : Value).ownBlock) (.slice Ao76 t235.length co76) t235) := ⟨(by rw [hw]; exact (by (with_reducible repeat (first | apply Kd.R_alloc | apply Kd.R_drewN | apply Kd.R_drew)); exact Kd.R_mono (Kd.R_far (p := ⟨gb239, 1, none⟩) (Kd.R_far (p := ⟨gb239, 0, none⟩) (Kd.R_types HO237.out BK239.out (by decide)) (fun _ hk => hk.2) (.int .i64 t234)) (fun _ hk => hk.2) (.slice Ao76 t235.length co76)) (fun _ hk => hk.1)))⟩; have n2_ : Aside0 (w77.heap[gb206]? = some (.cells #[.int .i64 0, .slice none 0 0] 36 (0, 0))) := ⟨(by rw [hw]; exact (by (with_reducible repeat (first | refine Ya ?_ _ | refine Yb ?_ | refine Yc ?_ _)); refine blk_far ?_ NB206_239.out _; (with_reducible repeat (first | refine Ya ?_ _ | refine Yb ?_ | refine Yc ?_ _)); refine blk_far ?_ NB206_239.out _; (with_reducible repeat (first | refine Ya ?_ _ | refine Yb ?_ | refine Yc ?_ _)); exact BK206.out))⟩; have n3_ : Aside0 (w77.heap[gb215]? = some (.cells #[.int .i64 t210, .slice Ao13 t211.length co13] 36 (0, 0))) := ⟨(by rw [hw]; exact (by (with_reducible repeat (first | refine Ya ?_ _ | refine Yb ?_ | refine Yc ?_ _)); refine blk_far ?_ NB215_239.out _; (with_reducible repeat (first | refine Ya ?_ _ | refine Yb ?_ | refine Yc ?_ _)); refine blk_far ?_ NB215_239.out _; (with_reducible repeat (first | refine Ya ?_ _ | refine Yb ?_ | refine Yc ?_ _)); exact BK215.out))⟩; have n4_ : Aside0 (w77.heap[gb233]? = some (.cells #[.int .i64 t228, .slice Ao66 t229.length co66] 36 (0, 0))) := ⟨(by rw [hw]; exact (by (with_reducible repeat (first | refine Ya ?_ _ | refine Yb ?_ | refine Yc ?_ _)); refine blk_far ?_ NB233_239.out _; (with_reducible repeat (first | refine Ya ?_ _ | refine Yb ?_ | refine Yc ?_ _)); refine blk_far ?_ NB233_239.out _; (with_reducible repeat (first | refine Ya ?_ _ | refine Yb ?_ | refine Yc ?_ _)); exact BK233.out))⟩; have n5_ : Aside0 (w77.heap[gb239]? = some (.cells #[.int .i64 t234, .slice Ao76 t235.length co76] 36 (0, 0))) := ⟨(by rw [hw]; exact (by (with_reducible repeat (first | refine Ya ?_ _ | refine Yb ?_ | refine Yc ?_ _)); refine blk_put (cs := #[.int .i64 t234, .slice none 0 0]) ?_ 1 _ rfl; (with_reducible repeat (first | refine Ya ?_ _ | refine Yb ?_ | refine Yc ?_ _)); refine blk_put (cs := #[.int .i64 0, .slice none 0 0]) ?_ 0 _ rfl; (with_reducible repeat (first | refine Ya ?_ _ | refine Yb ?_ | refine Yc ?_ _)); exact BK239.out))⟩; have n6_ : Aside0 (IsS94 w w77 g209 t207 t223) := ⟨(by rw [hw]; exact (by repeat (first | (with_reducible first | exact HI209.out | apply IsS94.alloc | apply IsS94.drewN | apply IsS94.drew | apply IsS94.set_1 | refine IsS94.far ?_ NB209_206.out _ | refine IsS94.far ?_ NB209_215.out _ | refine IsS94.far ?_ NB209_233.out _ | refine IsS94.far ?_ NB209_239.out _) | exact HI209.out)))⟩; have n7_ : Aside0 (Below w.heap.size w w77) := ⟨(by rw [hw]; exact (by repeat (first | (with_reducible first | exact HB.out | apply Yf | apply Yg | apply Yh | refine Yi ?_ (IsS94.ge HI209.out) | refine Yi ?_ GE206.out | refine Yi ?_ GE215.out | refine Yi ?_ GE233.out | refine Yi ?_ GE239.out) | exact HB.out)))⟩; clear hw; clear HO_216001; clear HO237; clear BK206; clear BK215; clear BK233; clear BK239; clear HI209; clear HB; have HO_216001 := n0_; have HO237 := n1_; have BK206 := n2_; have BK215 := n3_; have BK233 := n4_; have BK239 := n5_; have HI209 := n6_; have HB := n7_; clear n0_ n1_ n2_ n3_ n4_ n5_ n6_ n7_; have hcz78_0 : w77.cell? ⟨gb239, 0, none⟩ = some (.int .i64 t234) := (Yd BK239.out 0).trans rfl; have hcz78_1 : w77.cell? ⟨gb239, 1, none⟩ = some (.slice Ao76 t235.length co76) := (Yd BK239.out 1).trans rfl; have hfz78_0 := Ye BK239.out 0; have hfz78_1 := Ye BK239.out 1) | ((with_reducible refine gate_callee (f := 38) rfl ?_); refine goesL_ (some 68) rfl rfl Try.func38 (by kernel_rfl) rfl #[.agg #[.int .i64 t234, .slice Ao76 t235.length co76], .int .i64 t232, .int .i64 (wrap64 ((wrap64 (2 * (wrap64 (1 + t222)))) + 1))] rfl (by (try simp only [List.map_toArray, List.map_cons, List.map_nil]); first | done | rfl | (simp only [List.length_drop, List.length_take]; rfl)) ?_; (with_reducible refine (spec_l7And.calls kj4 t234 (fun k_ => some k_ = (.slice Ao76 t235.length co76 : Value).ownBlock) (.slice Ao76 t235.length co76) t235 t232 (wrap64 ((wrap64 (2 * (wrap64 (1 + t222)))) + 1)) t240 t241 t244 w _ ?side1 ?side2 A51.out).mono ?_); (case side1 => repeat (first | (with_reducible first | exact HB.out | apply Yf | apply Yg | apply Yh | refine Yi ?_ (IsS94.ge HI209.out) | refine Yi ?_ GE206.out | refine Yi ?_ GE215.out | refine Yi ?_ GE233.out | refine Yi ?_ GE239.out) | exact HB.out)); (case side2 => exact Kd.R_tight rfl HO237.out); rintro e w79 ⟨v242, rfl, ho0, hb, hkp⟩; refine ⟨_, rfl, ?_⟩; have n0_ := Yj (Kd.R_mono (ok' := fun k_ => some k_ ≠ (v242 : Value).ownBlock) (Kd.R_keptB (HO_216001.out) hkp (fun k_ hk_ hs_ => (hk_) hs_)) (fun k_ hk_ => fun e_ => Or.elim (ho0.1 k_ e_.symm) (fun hs_ => hk_.2.1 hs_) (fun hn_ => Nat.not_le.2 hk_.2.2 hn_))); have n1_ := Yj (blk_kept (by (with_reducible repeat (first | refine Ya ?_ _ | refine Yb ?_ | refine Yc ?_ _)); exact BK206.out) hkp (fun hs_ => (fun e_ => (Kd.R_ne HO237.out BK206.out (by decide)) e_) hs_)); have n2_ := Yj (blk_kept (by (with_reducible repeat (first | refine Ya ?_ _ | refine Yb ?_ | refine Yc ?_ _)); exact BK215.out) hkp (fun hs_ => (fun e_ => (Kd.R_ne HO237.out BK215.out (by decide)) e_) hs_)); have n3_ := Yj (IsS94.kept (by repeat (first | (with_reducible first | exact HI209.out | apply IsS94.alloc | apply IsS94.drewN | apply IsS94.drew | apply IsS94.set_1 | refine IsS94.far ?_ NB209_206.out _ | refine IsS94.far ?_ NB209_215.out _ | refine IsS94.far ?_ NB209_233.out _ | refine IsS94.far ?_ NB209_239.out _) | exact HI209.out)) hkp (fun hs_ => (fun e_ => (IsS94.own_ne HI209.out HO237.out (by decide)) e_) hs_)); have n4_ := Yj (blk_kept (by (with_reducible repeat (first | refine Ya ?_ _ | refine Yb ?_ | refine Yc ?_ _)); exact BK233.out) hkp (fun hs_ => (fun e_ => (Kd.R_ne HO237.out BK233.out (by decide)) e_) hs_)); have n5_ := Yj (blk_kept (by (with_reducible repeat (first | refine Ya ?_ _ | refine Yb ?_ | refine Yc ?_ _)); exact BK239.out) hkp (fun hs_ => (fun e_ => (Kd.R_ne HO237.out BK239.out (by decide)) e_) hs_)); have n6_ := Yj (Kd.R_mono (ok' := fun k_ => some k_ ≠ (.slice Ao13 t211.length co13 : Value).ownBlock) ho0 (fun k_ hk_ => Or.elim hk_ (fun hs_ => fun e_ => (((HO_216001.out).1 k_ e_.symm)) hs_) (fun hn_ => (Kd.fresh' (Kd.R_lt (by (with_reducible repeat (first | apply Kd.R_alloc | apply Kd.R_drewN | apply Kd.R_drew)); exact HO_216001.out)) k_ hn_)))); have n7_ := Yj (hb); clear HO_216001; clear BK206; clear BK215; clear HI209; clear BK233; clear BK239; clear HB; clear HO237; have HO_216001 := n0_; have BK206 := n1_; have BK215 := n2_; have HI209 := n3_; have BK233 := n4_; have BK239 := n5_; have HO243 := n6_; have HB := n7_; clear n0_ n1_ n2_ n3_ n4_ n5_ n6_ n7_; (try clear hb); (try clear hkp); (try clear ho0)) | ((with_reducible refine gate_dst (N := 13) rfl ?_); refine box_event ?hg (N := 13) ?hd (cs := #[.int .i64 0, .slice none 0 0]) (t := 36) ?hr ?_; (case hd => rfl); (case hg => rfl); (case hr => first | (go_simp; done) | (go_simp; rfl)); intro gb245 hg w80 hbox hb; have n0_ := Yj (Kd.R_below (by (with_reducible repeat (first | apply Kd.R_alloc | apply Kd.R_drewN | apply Kd.R_drew)); exact HO_216001.out) hb); have n1_ := Yj (Kd.R_below (by (with_reducible repeat (first | apply Kd.R_alloc | apply Kd.R_drewN | apply Kd.R_drew)); exact HO243.out) hb); have n2_ := Yj (blk_below (g := gb206) (o := .cells #[.int .i64 0, .slice none 0 0] 36 (0, 0)) (by (with_reducible repeat (first | refine Ya ?_ _ | refine Yb ?_ | refine Yc ?_ _)); exact BK206.out) hb); have n3_ := Yj (blk_below (g := gb215) (o := .cells #[.int .i64 t210, .slice Ao13 t211.length co13] 36 (0, 0)) (by (with_reducible repeat (first | refine Ya ?_ _ | refine Yb ?_ | refine Yc ?_ _)); exact BK215.out) hb); have n4_ := Yj (IsS94.below (by repeat (first | (with_reducible first | exact HI209.out | apply IsS94.alloc | apply IsS94.drewN | apply IsS94.drew | apply IsS94.set_1 | refine IsS94.far ?_ NB209_206.out _ | refine IsS94.far ?_ NB209_215.out _ | refine IsS94.far ?_ NB209_233.out _ | refine IsS94.far ?_ NB209_239.out _) | exact HI209.out)) hb); have n5_ := Yj (blk_below (g := gb233) (o := .cells #[.int .i64 t228, .slice Ao66 t229.length co66] 36 (0, 0)) (by (with_reducible repeat (first | refine Ya ?_ _ | refine Yb ?_ | refine Yc ?_ _)); exact BK233.out) hb); have n6_ := Yj (blk_below (g := gb239) (o := .cells #[.int .i64 t234, .slice Ao76 t235.length co76] 36 (0, 0)) (by (with_reducible repeat (first | refine Ya ?_ _ | refine Yb ?_ | refine Yc ?_ _)); exact BK239.out) hb); have n7_ := Yj (below_step (by repeat (first | (with_reducible first | exact HB.out | apply Yf | apply Yg | apply Yh | refine Yi ?_ (IsS94.ge HI209.out) | refine Yi ?_ GE206.out | refine Yi ?_ GE215.out | refine Yi ?_ GE233.out | refine Yi ?_ GE239.out) | exact HB.out)) hb); have n8_ := Yj (hbox); have n9_ := Yj ((by rw [hg]; exact (below_size (by repeat (first | (with_reducible first | exact HB.out | apply Yf | apply Yg | apply Yh | refine Yi ?_ (IsS94.ge HI209.out) | refine Yi ?_ GE206.out | refine Yi ?_ GE215.out | refine Yi ?_ GE233.out | refine Yi ?_ GE239.out) | exact HB.out))) : w.heap.size ≤ gb245)); have n10_ := Yj ((by rw [hg]; exact (below_size (by repeat (first | (with_reducible first | exact HB.out | apply Yf | apply Yg | apply Yh | refine Yi ?_ (IsS94.ge HI209.out) | refine Yi ?_ GE206.out | refine Yi ?_ GE215.out | refine Yi ?_ GE233.out | refine Yi ?_ GE239.out) | exact HB.out))) : w.heap.size ≤ gb245)); have n11_ := Yj ((by rw [hg]; exact Nat.ne_of_lt (blk_lt (g := gb206) (o := .cells #[.int .i64 0, .slice none 0 0] 36 (0, 0)) (by (with_reducible repeat (first | refine Ya ?_ _ | refine Yb ?_ | refine Yc ?_ _)); exact BK206.out)) : gb206 ≠ gb245)); have n12_ := Yj ((by rw [hg]; exact Nat.ne_of_gt (blk_lt (g := gb206) (o := .cells #[.int .i64 0, .slice none 0 0] 36 (0, 0)) (by (with_reducible repeat (first | refine Ya ?_ _ | refine Yb ?_ | refine Yc ?_ _)); exact BK206.out)) : gb245 ≠ gb206)); have n13_ := Yj ((by rw [hg]; exact Nat.ne_of_lt (blk_lt (g := gb215) (o := .cells #[.int .i64 t210, .slice Ao13 t211.length co13] 36 (0, 0)) (by (with_reducible repeat (first | refine Ya ?_ _ | refine Yb ?_ | refine Yc ?_ _)); exact BK215.out)) : gb215 ≠ gb245)); have n14_ := Yj ((by rw [hg]; exact Nat.ne_of_gt (blk_lt (g := gb215) (o := .cells #[.int .i64 t210, .slice Ao13 t211.length co13] 36 (0, 0)) (by (with_reducible repeat (first | refine Ya ?_ _ | refine Yb ?_ | refine Yc ?_ _)); exact BK215.out)) : gb245 ≠ gb215)); have n15_ := Yj ((by rw [hg]; exact Nat.ne_of_lt (blk_lt (g := gb233) (o := .cells #[.int .i64 t228, .slice Ao66 t229.length co66] 36 (0, 0)) (by (with_reducible repeat (first | refine Ya ?_ _ | refine Yb ?_ | refine Yc ?_ _)); exact BK233.out)) : gb233 ≠ gb245)); have n16_ := Yj ((by rw [hg]; exact Nat.ne_of_gt (blk_lt (g := gb233) (o := .cells #[.int .i64 t228, .slice Ao66 t229.length co66] 36 (0, 0)) (by (with_reducible repeat (first | refine Ya ?_ _ | refine Yb ?_ | refine Yc ?_ _)); exact BK233.out)) : gb245 ≠ gb233)); have n17_ := Yj ((by rw [hg]; exact Nat.ne_of_lt (blk_lt (g := gb239) (o := .cells #[.int .i64 t234, .slice Ao76 t235.length co76] 36 (0, 0)) (by (with_reducible repeat (first | refine Ya ?_ _ | refine Yb ?_ | refine Yc ?_ _)); exact BK239.out)) : gb239 ≠ gb245)); have n18_ := Yj ((by rw [hg]; exact Nat.ne_of_gt (blk_lt (g := gb239) (o := .cells #[.int .i64 t234, .slice Ao76 t235.length co76] 36 (0, 0)) (by (with_reducible repeat (first | refine Ya ?_ _ | refine Yb ?_ | refine Yc ?_ _)); exact BK239.out)) : gb245 ≠ gb239)); have n19_ := Yj ((by rw [hg]; exact Nat.ne_of_lt (IsS94.lt (show IsS94 w _ g209 t207 t223 from by repeat (first | (with_reducible first | exact HI209.out | apply IsS94.alloc | apply IsS94.drewN | apply IsS94.drew | apply IsS94.set_1 | refine IsS94.far ?_ NB209_206.out _ | refine IsS94.far ?_ NB209_215.out _ | refine IsS94.far ?_ NB209_233.out _ | refine IsS94.far ?_ NB209_239.out _) | exact HI209.out))) : g209 ≠ gb245)); have n20_ := Yj ((by rw [hg]; exact Nat.ne_of_gt (IsS94.lt (show IsS94 w _ g209 t207 t223 from by repeat (first | (with_reducible first | exact HI209.out | apply IsS94.alloc | apply IsS94.drewN | apply IsS94.drew | apply IsS94.set_1 | refine IsS94.far ?_ NB209_206.out _ | refine IsS94.far ?_ NB209_215.out _ | refine IsS94.far ?_ NB209_233.out _ | refine IsS94.far ?_ NB209_239.out _) | exact HI209.out))) : gb245 ≠ g209)); clear HO_216001; clear HO243; clear BK206; clear BK215; clear HI209; clear BK233; clear BK239; clear HB; have HO_216001 := n0_; have HO243 := n1_; have BK206 := n2_; have BK215 := n3_; have HI209 := n4_; have BK233 := n5_; have BK239 := n6_; have HB := n7_; have BK245 := n8_; have GW245 := n9_; have GE245 := n10_; have NB206_245 := n11_; have NB245_206 := n12_; have NB215_245 := n13_; have NB245_215 := n14_; have NB233_245 := n15_; have NB245_233 := n16_; have NB239_245 := n17_; have NB245_239 := n18_; have NB209_245 := n19_; have NB245_209 := n20_; clear n0_ n1_ n2_ n3_ n4_ n5_ n6_ n7_ n8_ n9_ n10_ n11_ n12_ n13_ n14_ n15_ n16_ n17_ n18_ n19_ n20_; clear hb hbox hg; have hnb81 := NB245_206.out; have hnc81 := NB206_245.out; have hnb82 := NB245_215.out; have hnc82 := NB215_245.out; have hnb83 := NB245_233.out; have hnc83 := NB233_245.out; have hnb84 := NB245_239.out; have hnc84 := NB239_245.out; have hnb85 := NB245_209.out; have hnc85 := NB209_245.out; have hcz86_0 : w80.cell? ⟨gb245, 0, none⟩ = some (.int .i64 0) := (Yd BK245.out 0).trans rfl; have hcz86_1 : w80.cell? ⟨gb245, 1, none⟩ = some (.slice none 0 0) := (Yd BK245.out 1).trans rfl; have hfz86_0 := Ye BK245.out 0; have hfz86_1 := Ye BK245.out 1; obtain ⟨Ao87, co87, eo87⟩ := Kd.R_slice HO243.out; subst eo87) | ((with_reducible refine gate_store (t := 36) (p := 13) rfl ?_); refine store_event (t := 36) (p := 13) (v := ?vo_w88) (w1 := ((w80.setCell ⟨gb245, 0, none⟩ (.int .i64 t240)).setCell ⟨gb245, 1, none⟩ (.slice Ao87 t241.length co87))) ?hg ?ho ?hn ?hr ?_; (case ho => rfl); (case hg => rfl); (case hn => rfl); (case hr => first | (go_simp; done) | (go_simp; rfl)); intro w88 hw; have n0_ : Aside0 (Kd.R k73 73 w88 w.heap.size (fun k_ => some k_ ≠ (.slice Ao87 t241.length co87 : Value).ownBlock) (.slice Ao13 t211.length co13) t211) := ⟨(by rw [hw]; exact (by (with_reducible repeat (first | apply Kd.R_alloc | apply Kd.R_drewN | apply Kd.R_drew)); exact Kd.R_mono (Kd.R_far (p := ⟨gb245, 1, none⟩) (Kd.R_far (p := ⟨gb245, 0, none⟩) (Kd.R_types HO_216001.out BK245.out (by decide)) (fun _ hk => hk.2) (.int .i64 t240)) (fun _ hk => hk.2) (.slice Ao87 t241.length co87)) (fun _ hk => hk.1)))⟩; have n1_ : Aside0 (Kd.R k73 73 w88 w.heap.size (fun k_ => some k_ ≠ (.slice Ao13 t211.length co13 : Value).ownBlock) (.slice Ao87 t241.length co87) t241) := ⟨(by rw [hw]; exact (by (with_reducible repeat (first | apply Kd.R_alloc | apply Kd.R_drewN | apply Kd.R_drew)); exact Kd.R_mono (Kd.R_far (p := ⟨gb245, 1, none⟩) (Kd.R_far (p := ⟨gb245, 0, none⟩) (Kd.R_types HO243.out BK245.out (by decide)) (fun _ hk => hk.2) (.int .i64 t240)) (fun _ hk => hk.2) (.slice Ao87 t241.length co87)) (fun _ hk => hk.1)))⟩; have n2_ : Aside0 (w88.heap[gb206]? = some (.cells #[.int .i64 0, .slice none 0 0] 36 (0, 0))) := ⟨(by rw [hw]; exact (by (with_reducible repeat (first | refine Ya ?_ _ | refine Yb ?_ | refine Yc ?_ _)); refine blk_far ?_ NB206_245.out _; (with_reducible repeat (first | refine Ya ?_ _ | refine Yb ?_ | refine Yc ?_ _)); refine blk_far ?_ NB206_245.out _; (with_reducible repeat (first | refine Ya ?_ _ | refine Yb ?_ | refine Yc ?_ _)); exact BK206.out))⟩; have n3_ : Aside0 (w88.heap[gb215]? = some (.cells #[.int .i64 t210, .slice Ao13 t211.length co13] 36 (0, 0))) := ⟨(by rw [hw]; exact (by (with_reducible repeat (first | refine Ya ?_ _ | refine Yb ?_ | refine Yc ?_ _)); refine blk_far ?_ NB215_245.out _; (with_reducible repeat (first | refine Ya ?_ _ | refine Yb ?_ | refine Yc ?_ _)); refine blk_far ?_ NB215_245.out _; (with_reducible repeat (first | refine Ya ?_ _ | refine Yb ?_ | refine Yc ?_ _)); exact BK215.out))⟩; have n4_ : Aside0 (w88.heap[gb233]? = some (.cells #[.int .i64 t228, .slice Ao66 t229.length co66] 36 (0, 0))) := ⟨(by rw [hw]; exact (by (with_reducible repeat (first | refine Ya ?_ _ | refine Yb ?_ | refine Yc ?_ _)); refine blk_far ?_ NB233_245.out _; (with_reducible repeat (first | refine Ya ?_ _ | refine Yb ?_ | refine Yc ?_ _)); refine blk_far ?_ NB233_245.out _; (with_reducible repeat (first | refine Ya ?_ _ | refine Yb ?_ | refine Yc ?_ _)); exact BK233.out))⟩; have n5_ : Aside0 (w88.heap[gb239]? = some (.cells #[.int .i64 t234, .slice Ao76 t235.length co76] 36 (0, 0))) := ⟨(by rw [hw]; exact (by (with_reducible repeat (first | refine Ya ?_ _ | refine Yb ?_ | refine Yc ?_ _)); refine blk_far ?_ NB239_245.out _; (with_reducible repeat (first | refine Ya ?_ _ | refine Yb ?_ | refine Yc ?_ _)); refine blk_far ?_ NB239_245.out _; (with_reducible repeat (first | refine Ya ?_ _ | refine Yb ?_ | refine Yc ?_ _)); exact BK239.out))⟩; have n6_ : Aside0 (w88.heap[gb245]? = some (.cells #[.int .i64 t240, .slice Ao87 t241.length co87] 36 (0, 0))) := ⟨(by rw [hw]; exact (by (with_reducible repeat (first | refine Ya ?_ _ | refine Yb ?_ | refine Yc ?_ _)); refine blk_put (cs := #[.int .i64 t240, .slice none 0 0]) ?_ 1 _ rfl; (with_reducible repeat (first | refine Ya ?_ _ | refine Yb ?_ | refine Yc ?_ _)); refine blk_put (cs := #[.int .i64 0, .slice none 0 0]) ?_ 0 _ rfl; (with_reducible repeat (first | refine Ya ?_ _ | refine Yb ?_ | refine Yc ?_ _)); exact BK245.out))⟩; have n7_ : Aside0 (IsS94 w w88 g209 t207 t223) := ⟨(by rw [hw]; exact (by repeat (first | (with_reducible first | exact HI209.out | apply IsS94.alloc | apply IsS94.drewN | apply IsS94.drew | apply IsS94.set_1 | refine IsS94.far ?_ NB209_206.out _ | refine IsS94.far ?_ NB209_215.out _ | refine IsS94.far ?_ NB209_233.out _ | refine IsS94.far ?_ NB209_239.out _ | refine IsS94.far ?_ NB209_245.out _) | exact HI209.out)))⟩; have n8_ : Aside0 (Below w.heap.size w w88) := ⟨(by rw [hw]; exact (by repeat (first | (with_reducible first | exact HB.out | apply Yf | apply Yg | apply Yh | refine Yi ?_ (IsS94.ge HI209.out) | refine Yi ?_ GE206.out | refine Yi ?_ GE215.out | refine Yi ?_ GE233.out | refine Yi ?_ GE239.out | refine Yi ?_ GE245.out) | exact HB.out)))⟩; clear hw; clear HO_216001; clear HO243; clear BK206; clear BK215; clear BK233; clear BK239; clear BK245; clear HI209; clear HB; have HO_216001 := n0_; have HO243 := n1_; have BK206 := n2_; have BK215 := n3_; have BK233 := n4_; have BK239 := n5_; have BK245 := n6_; have HI209 := n7_; have HB := n8_; clear n0_ n1_ n2_ n3_ n4_ n5_ n6_ n7_ n8_; have hcz89_0 : w88.cell? ⟨gb245, 0, none⟩ = some (.int .i64 t240) := (Yd BK245.out 0).trans rfl; have hcz89_1 : w88.cell? ⟨gb245, 1, none⟩ = some (.slice Ao87 t241.length co87) := (Yd BK245.out 1).trans rfl; have hfz89_0 := Ye BK245.out 0; have hfz89_1 := Ye BK245.out 1) | ((with_reducible refine gate_callee (f := 39) rfl ?_); refine goesL_ (some 75) rfl rfl Try.func39 (by kernel_rfl) rfl #[.agg #[.int .i64 t240, .slice Ao87 t241.length co87], .int .i64 t238, .int .i64 t244] rfl (by (try simp only [List.map_toArray, List.map_cons, List.map_nil]); first | done | rfl | (simp only [List.length_drop, List.length_take]; rfl)) ?_; (with_reducible refine (spec_l7Or.calls kj4 t240 (fun k_ => some k_ = (.slice Ao87 t241.length co87 : Value).ownBlock) (.slice Ao87 t241.length co87) t241 t238 t244 t246 t247 t250 w _ ?side1 ?side2 A52.out).mono ?_); (case side1 => repeat (first | (with_reducible first | exact HB.out | apply Yf | apply Yg | apply Yh | refine Yi ?_ (IsS94.ge HI209.out) | refine Yi ?_ GE206.out | refine Yi ?_ GE215.out | refine Yi ?_ GE233.out | refine Yi ?_ GE239.out | refine Yi ?_ GE245.out) | exact HB.out)); (case side2 => exact Kd.R_tight rfl HO243.out); rintro e w90 ⟨v248, rfl, ho0, hb, hkp⟩; refine ⟨_, rfl, ?_⟩; have n0_ := Yj (Kd.R_mono (ok' := fun k_ => some k_ ≠ (v248 : Value).ownBlock) (Kd.R_keptB (HO_216001.out) hkp (fun k_ hk_ hs_ => (hk_) hs_)) (fun k_ hk_ => fun e_ => Or.elim (ho0.1 k_ e_.symm) (fun hs_ => hk_.2.1 hs_) (fun hn_ => Nat.not_le.2 hk_.2.2 hn_))); have n1_ := Yj (blk_kept (by (with_reducible repeat (first | refine Ya ?_ _ | refine Yb ?_ | refine Yc ?_ _)); exact BK206.out) hkp (fun hs_ => (fun e_ => (Kd.R_ne HO243.out BK206.out (by decide)) e_) hs_)); have n2_ := Yj (blk_kept (by (with_reducible repeat (first | refine Ya ?_ _ | refine Yb ?_ | refine Yc ?_ _)); exact BK215.out) hkp (fun hs_ => (fun e_ => (Kd.R_ne HO243.out BK215.out (by decide)) e_) hs_)); have n3_ := Yj (IsS94.kept (by repeat (first | (with_reducible first | exact HI209.out | apply IsS94.alloc | apply IsS94.drewN | apply IsS94.drew | apply IsS94.set_1 | refine IsS94.far ?_ NB209_206.out _ | refine IsS94.far ?_ NB209_215.out _ | refine IsS94.far ?_ NB209_233.out _ | refine IsS94.far ?_ NB209_239.out _ | refine IsS94.far ?_ NB209_245.out _) | exact HI209.out)) hkp (fun hs_ => (fun e_ => (IsS94.own_ne HI209.out HO243.out (by decide)) e_) hs_)); have n4_ := Yj (blk_kept (by (with_reducible repeat (first | refine Ya ?_ _ | refine Yb ?_ | refine Yc ?_ _)); exact BK233.out) hkp (fun hs_ => (fun e_ => (Kd.R_ne HO243.out BK233.out (by decide)) e_) hs_)); have n5_ := Yj (blk_kept (by (with_reducible repeat (first | refine Ya ?_ _ | refine Yb ?_ | refine Yc ?_ _)); exact BK239.out) hkp (fun hs_ => (fun e_ => (Kd.R_ne HO243.out BK239.out (by decide)) e_) hs_)); have n6_ := Yj (blk_kept (by (with_reducible repeat (first | refine Ya ?_ _ | refine Yb ?_ | refine Yc ?_ _)); exact BK245.out) hkp (fun hs_ => (fun e_ => (Kd.R_ne HO243.out BK245.out (by decide)) e_) hs_)); have n7_ := Yj (Kd.R_mono (ok' := fun k_ => some k_ ≠ (.slice Ao13 t211.length co13 : Value).ownBlock) ho0 (fun k_ hk_ => Or.elim hk_ (fun hs_ => fun e_ => (((HO_216001.out).1 k_ e_.symm)) hs_) (fun hn_ => (Kd.fresh' (Kd.R_lt (by (with_reducible repeat (first | apply Kd.R_alloc | apply Kd.R_drewN | apply Kd.R_drew)); exact HO_216001.out)) k_ hn_)))); have n8_ := Yj (hb); clear HO_216001; clear BK206; clear BK215; clear HI209; clear BK233; clear BK239; clear BK245; clear HB; clear HO243; have HO_216001 := n0_; have BK206 := n1_; have BK215 := n2_; have HI209 := n3_; have BK233 := n4_; have BK239 := n5_; have BK245 := n6_; have HO249 := n7_; have HB := n8_; clear n0_ n1_ n2_ n3_ n4_ n5_ n6_ n7_ n8_; (try clear hb); (try clear hkp); (try clear ho0)) | ((with_reducible refine gate_dst (N := 15) rfl ?_); refine box_event ?hg (N := 15) ?hd (cs := #[.int .i64 0, .slice none 0 0]) (t := 36) ?hr ?_; (case hd => rfl); (case hg => rfl); (case hr => first | (go_simp; done) | (go_simp; rfl)); intro gb251 hg w91 hbox hb; have n0_ := Yj (Kd.R_below (by (with_reducible repeat (first | apply Kd.R_alloc | apply Kd.R_drewN | apply Kd.R_drew)); exact HO_216001.out) hb); have n1_ := Yj (Kd.R_below (by (with_reducible repeat (first | apply Kd.R_alloc | apply Kd.R_drewN | apply Kd.R_drew)); exact HO249.out) hb); have n2_ := Yj (blk_below (g := gb206) (o := .cells #[.int .i64 0, .slice none 0 0] 36 (0, 0)) (by (with_reducible repeat (first | refine Ya ?_ _ | refine Yb ?_ | refine Yc ?_ _)); exact BK206.out) hb); have n3_ := Yj (blk_below (g := gb215) (o := .cells #[.int .i64 t210, .slice Ao13 t211.length co13] 36 (0, 0)) (by (with_reducible repeat (first | refine Ya ?_ _ | refine Yb ?_ | refine Yc ?_ _)); exact BK215.out) hb); have n4_ := Yj (IsS94.below (by repeat (first | (with_reducible first | exact HI209.out | apply IsS94.alloc | apply IsS94.drewN | apply IsS94.drew | apply IsS94.set_1 | refine IsS94.far ?_ NB209_206.out _ | refine IsS94.far ?_ NB209_215.out _ | refine IsS94.far ?_ NB209_233.out _ | refine IsS94.far ?_ NB209_239.out _ | refine IsS94.far ?_ NB209_245.out _) | exact HI209.out)) hb); have n5_ := Yj (blk_below (g := gb233) (o := .cells #[.int .i64 t228, .slice Ao66 t229.length co66] 36 (0, 0)) (by (with_reducible repeat (first | refine Ya ?_ _ | refine Yb ?_ | refine Yc ?_ _)); exact BK233.out) hb); have n6_ := Yj (blk_below (g := gb239) (o := .cells #[.int .i64 t234, .slice Ao76 t235.length co76] 36 (0, 0)) (by (with_reducible repeat (first | refine Ya ?_ _ | refine Yb ?_ | refine Yc ?_ _)); exact BK239.out) hb); have n7_ := Yj (blk_below (g := gb245) (o := .cells #[.int .i64 t240, .slice Ao87 t241.length co87] 36 (0, 0)) (by (with_reducible repeat (first | refine Ya ?_ _ | refine Yb ?_ | refine Yc ?_ _)); exact BK245.out) hb); have n8_ := Yj (below_step (by repeat (first | (with_reducible first | exact HB.out | apply Yf | apply Yg | apply Yh | refine Yi ?_ (IsS94.ge HI209.out) | refine Yi ?_ GE206.out | refine Yi ?_ GE215.out | refine Yi ?_ GE233.out | refine Yi ?_ GE239.out | refine Yi ?_ GE245.out) | exact HB.out)) hb); have n9_ := Yj (hbox); have n10_ := Yj ((by rw [hg]; exact (below_size (by repeat (first | (with_reducible first | exact HB.out | apply Yf | apply Yg | apply Yh | refine Yi ?_ (IsS94.ge HI209.out) | refine Yi ?_ GE206.out | refine Yi ?_ GE215.out | refine Yi ?_ GE233.out | refine Yi ?_ GE239.out | refine Yi ?_ GE245.out) | exact HB.out))) : w.heap.size ≤ gb251)); have n11_ := Yj ((by rw [hg]; exact (below_size (by repeat (first | (with_reducible first | exact HB.out | apply Yf | apply Yg | apply Yh | refine Yi ?_ (IsS94.ge HI209.out) | refine Yi ?_ GE206.out | refine Yi ?_ GE215.out | refine Yi ?_ GE233.out | refine Yi ?_ GE239.out | refine Yi ?_ GE245.out) | exact HB.out))) : w.heap.size ≤ gb251)); have n12_ := Yj ((by rw [hg]; exact Nat.ne_of_lt (blk_lt (g := gb206) (o := .cells #[.int .i64 0, .slice none 0 0] 36 (0, 0)) (by (with_reducible repeat (first | refine Ya ?_ _ | refine Yb ?_ | refine Yc ?_ _)); exact BK206.out)) : gb206 ≠ gb251)); have n13_ := Yj ((by rw [hg]; exact Nat.ne_of_gt (blk_lt (g := gb206) (o := .cells #[.int .i64 0, .slice none 0 0] 36 (0, 0)) (by (with_reducible repeat (first | refine Ya ?_ _ | refine Yb ?_ | refine Yc ?_ _)); exact BK206.out)) : gb251 ≠ gb206)); have n14_ := Yj ((by rw [hg]; exact Nat.ne_of_lt (blk_lt (g := gb215) (o := .cells #[.int .i64 t210, .slice Ao13 t211.length co13] 36 (0, 0)) (by (with_reducible repeat (first | refine Ya ?_ _ | refine Yb ?_ | refine Yc ?_ _)); exact BK215.out)) : gb215 ≠ gb251)); have n15_ := Yj ((by rw [hg]; exact Nat.ne_of_gt (blk_lt (g := gb215) (o := .cells #[.int .i64 t210, .slice Ao13 t211.length co13] 36 (0, 0)) (by (with_reducible repeat (first | refine Ya ?_ _ | refine Yb ?_ | refine Yc ?_ _)); exact BK215.out)) : gb251 ≠ gb215)); have n16_ := Yj ((by rw [hg]; exact Nat.ne_of_lt (blk_lt (g := gb233) (o := .cells #[.int .i64 t228, .slice Ao66 t229.length co66] 36 (0, 0)) (by (with_reducible repeat (first | refine Ya ?_ _ | refine Yb ?_ | refine Yc ?_ _)); exact BK233.out)) : gb233 ≠ gb251)); have n17_ := Yj ((by rw [hg]; exact Nat.ne_of_gt (blk_lt (g := gb233) (o := .cells #[.int .i64 t228, .slice Ao66 t229.length co66] 36 (0, 0)) (by (with_reducible repeat (first | refine Ya ?_ _ | refine Yb ?_ | refine Yc ?_ _)); exact BK233.out)) : gb251 ≠ gb233)); have n18_ := Yj ((by rw [hg]; exact Nat.ne_of_lt (blk_lt (g := gb239) (o := .cells #[.int .i64 t234, .slice Ao76 t235.length co76] 36 (0, 0)) (by (with_reducible repeat (first | refine Ya ?_ _ | refine Yb ?_ | refine Yc ?_ _)); exact BK239.out)) : gb239 ≠ gb251)); have n19_ := Yj ((by rw [hg]; exact Nat.ne_of_gt (blk_lt (g := gb239) (o := .cells #[.int .i64 t234, .slice Ao76 t235.length co76] 36 (0, 0)) (by (with_reducible repeat (first | refine Ya ?_ _ | refine Yb ?_ | refine Yc ?_ _)); exact BK239.out)) : gb251 ≠ gb239)); have n20_ := Yj ((by rw [hg]; exact Nat.ne_of_lt (blk_lt (g := gb245) (o := .cells #[.int .i64 t240, .slice Ao87 t241.length co87] 36 (0, 0)) (by (with_reducible repeat (first | refine Ya ?_ _ | refine Yb ?_ | refine Yc ?_ _)); exact BK245.out)) : gb245 ≠ gb251)); have n21_ := Yj ((by rw [hg]; exact Nat.ne_of_gt (blk_lt (g := gb245) (o := .cells #[.int .i64 t240, .slice Ao87 t241.length co87] 36 (0, 0)) (by (with_reducible repeat (first | refine Ya ?_ _ | refine Yb ?_ | refine Yc ?_ _)); exact BK245.out)) : gb251 ≠ gb245)); have n22_ := Yj ((by rw [hg]; exact Nat.ne_of_lt (IsS94.lt (show IsS94 w _ g209 t207 t223 from by repeat (first | (with_reducible first | exact HI209.out | apply IsS94.alloc | apply IsS94.drewN | apply IsS94.drew | apply IsS94.set_1 | refine IsS94.far ?_ NB209_206.out _ | refine IsS94.far ?_ NB209_215.out _ | refine IsS94.far ?_ NB209_233.out _ | refine IsS94.far ?_ NB209_239.out _ | refine IsS94.far ?_ NB209_245.out _) | exact HI209.out))) : g209 ≠ gb251)); have n23_ := Yj ((by rw [hg]; exact Nat.ne_of_gt (IsS94.lt (show IsS94 w _ g209 t207 t223 from by repeat (first | (with_reducible first | exact HI209.out | apply IsS94.alloc | apply IsS94.drewN | apply IsS94.drew | apply IsS94.set_1 | refine IsS94.far ?_ NB209_206.out _ | refine IsS94.far ?_ NB209_215.out _ | refine IsS94.far ?_ NB209_233.out _ | refine IsS94.far ?_ NB209_239.out _ | refine IsS94.far ?_ NB209_245.out _) | exact HI209.out))) : gb251 ≠ g209)); clear HO_216001; clear HO249; clear BK206; clear BK215; clear HI209; clear BK233; clear BK239; clear BK245; clear HB; have HO_216001 := n0_; have HO249 := n1_; have BK206 := n2_; have BK215 := n3_; have HI209 := n4_; have BK233 := n5_; have BK239 := n6_; have BK245 := n7_; have HB := n8_; have BK251 := n9_; have GW251 := n10_; have GE251 := n11_; have NB206_251 := n12_; have NB251_206 := n13_; have NB215_251 := n14_; have NB251_215 := n15_; have NB233_251 := n16_; have NB251_233 := n17_; have NB239_251 := n18_; have NB251_239 := n19_; have NB245_251 := n20_; have NB251_245 := n21_; have NB209_251 := n22_; have NB251_209 := n23_; clear n0_ n1_ n2_ n3_ n4_ n5_ n6_ n7_ n8_ n9_ n10_ n11_ n12_ n13_ n14_ n15_ n16_ n17_ n18_ n19_ n20_ n21_ n22_ n23_; clear hb hbox hg; have hnb92 := NB251_206.out; have hnc92 := NB206_251.out; have hnb93 := NB251_215.out; have hnc93 := NB215_251.out; have hnb94 := NB251_233.out; have hnc94 := NB233_251.out; have hnb95 := NB251_239.out; have hnc95 := NB239_251.out; have hnb96 := NB251_245.out; have hnc96 := NB245_251.out; have hnb97 := NB251_209.out; have hnc97 := NB209_251.out; have hcz98_0 : w91.cell? ⟨gb251, 0, none⟩ = some (.int .i64 0) := (Yd BK251.out 0).trans rfl; have hcz98_1 : w91.cell? ⟨gb251, 1, none⟩ = some (.slice none 0 0) := (Yd BK251.out 1).trans rfl; have hfz98_0 := Ye BK251.out 0; have hfz98_1 := Ye BK251.out 1; obtain ⟨Ao99, co99, eo99⟩ := Kd.R_slice HO249.out; subst eo99; have hnb100 := NB206_209.out; have hnc100 := NB209_206.out; have hcz101_0 : w91.cell? ⟨gb206, 0, none⟩ = some (.int .i64 0) := (Yd BK206.out 0).trans rfl; have hcz101_1 : w91.cell? ⟨gb206, 1, none⟩ = some (.slice none 0 0) := (Yd BK206.out 1).trans rfl; have hfz101_0 := Ye BK206.out 0; have hfz101_1 := Ye BK206.out 1))
    refine bodyPost_ret (results_ctt rfl _ _ gb206 36 #[.int .i64 t246, .slice Ao99 t247.length co99] (0, 0) _ rfl (by (with_reducible repeat (first | refine Ya ?_ _ | refine Yb ?_ | refine Yc ?_ _)); refine blk_put (cs := #[.int .i64 t246, .slice none 0 0]) ?_ 1 _ rfl; (with_reducible repeat (first | refine Ya ?_ _ | refine Yb ?_ | refine Yc ?_ _)); refine blk_put (cs := #[.int .i64 0, .slice none 0 0]) ?_ 0 _ rfl; (with_reducible repeat (first | refine Ya ?_ _ | refine Yb ?_ | refine Yc ?_ _)); refine blk_far ?_ NB206_251.out _; (with_reducible repeat (first | refine Ya ?_ _ | refine Yb ?_ | refine Yc ?_ _)); refine blk_far ?_ NB206_251.out _; (with_reducible repeat (first | refine Ya ?_ _ | refine Yb ?_ | refine Yc ?_ _)); exact BK206.out) Try.underlying36 rfl (by kernel_rfl)) rfl ?_
    exact ⟨_, by first | rfl | (simp [errW_none, errW_some] <;> rfl) | (simp [*, errW_none, errW_some] <;> rfl), by (with_reducible repeat (first | apply Kd.R_alloc | apply Kd.R_drewN | apply Kd.R_drew)); exact Kd.R_mono (Kd.R_far (p := ⟨gb206, 1, none⟩) (Kd.R_far (p := ⟨gb206, 0, none⟩) (Kd.R_far (p := ⟨gb251, 1, none⟩) (Kd.R_far (p := ⟨gb251, 0, none⟩) (Kd.R_types (Kd.R_types HO249.out BK251.out (by decide)) BK206.out (by decide)) (fun _ hk => hk.1.2) (.int .i64 t246)) (fun _ hk => hk.1.2) (.slice Ao99 t247.length co99)) (fun _ hk => hk.2) (.int .i64 t246)) (fun _ hk => hk.2) (.slice Ao99 t247.length co99)) (fun _ hk => trivial), by repeat (first | (with_reducible first | exact HB.out | apply Yf | apply Yg | apply Yh | refine Yi ?_ (IsS94.ge HI209.out) | refine Yi ?_ GE206.out | refine Yi ?_ GE215.out | refine Yi ?_ GE233.out | refine Yi ?_ GE239.out | refine Yi ?_ GE245.out | refine Yi ?_ GE251.out) | exact HB.out)⟩
   ·replace c46 := Bool.eq_false_iff.mpr c46
    subst c46
    have H1 : ((spec_l7Some.f kj4 t207 x210001_4 t210 t211).bind fun bt252 => (some (t210, t211, t216, bt252.1))) = some (r1, r2, r3, r4) := by rw [if_neg (show ¬ (false = true) by decide)] at H; exact H
    clear H
    have H := H1
    clear H1
    replace H := Yk H
    obtain ⟨⟨t252, t253⟩, A1020, H⟩ := H
    replace H : (some (t210, t211, t216, t252)) = some (r1, r2, r3, r4) := H
    have A102 := Yj A1020
    clear A1020
    simp only [Option.some.injEq, Prod.mk.injEq] at H
    obtain ⟨rfl, rfl, rfl, rfl⟩ := H
    try go_wp2
    have n0_ := Yj (Kd.R_drew HO_216001.out)
    have n1_ := Yj (Yb BK206.out)
    have n2_ := Yj (Yb BK215.out)
    have n3_ := Yj (IsS94.drew HI209.out)
    have n4_ := Yj (Yh HB.out)
    clear HO_216001
    clear BK206
    clear BK215
    clear HI209
    clear HB
    have HO_216001 := n0_
    have BK206 := n1_
    have BK215 := n2_
    have HI209 := n3_
    have HB := n4_
    clear n0_ n1_ n2_ n3_ n4_
    refine start_ (n := 8) (S := fun w' => w'.cell? ⟨gb215, 0, none⟩ = some (.int .i64 t210) ∧ w'.cell? ⟨gb215, 1, none⟩ = some (.slice Ao13 t211.length co13)) (ds := []) #[false, false, false, false, false, false, false, false] (by kernel_rfl) rfl rfl ⟨(Yd BK215.out 0).trans rfl, (Yd BK215.out 1).trans rfl⟩ (fun hHeld => ?_); refine with_tabW spec_DrawSameEdges.tab11 spec_DrawSameEdges.bits11 (fun HT_ HW_ => ?_)
    generalize wc.drew = w103 at HO_216001 BK206 BK215 HI209 HB hHeld ⊢
    refine pure_ (i := 1) (N := some 82) (v := ?_) (a' := ?_) #[false, true, false, false, false, false, false, false] rfl rfl (any_of HT_.out (by kernel_rfl)) (fun _ _ _ h => h) (Or.inl ⟨by rfl, ?_⟩) ?_ ?_
    rotate_left
    ·intro w'
     go_simp
     with_reducible rfl
    rotate_left
    ·simp only [Act.put, List.setIfInBounds_toArray, List.set_cons_zero, List.set_cons_succ, i64_w, i32_w]
     rfl
    refine pure_ (i := 2) (N := some 83) (v := ?_) (a' := ?_) #[false, true, true, false, false, false, false, false] rfl rfl (any_of HT_.out (by kernel_rfl)) (fun _ _ _ h => h) (Or.inl ⟨by rfl, ?_⟩) ?_ ?_
    rotate_left
    ·intro w'
     go_simp
     with_reducible rfl
    rotate_left
    ·simp only [Act.put, List.setIfInBounds_toArray, List.set_cons_zero, List.set_cons_succ, i64_w, i32_w]
     rfl
    refine take_ (i := 0) (N := some 81) (v := ?_) (a' := ?_) #[true, true, true, false, false, false, false, false] rfl rfl (take_ofW HT_.out HW_.out (by kernel_rfl)) (fun _ _ _ h => h) (Or.inl ⟨by rfl, ?_⟩) hHeld ?_ ?_
    rotate_left
    ·rintro w' ⟨s0, s1⟩
     go_simp
     with_reducible rfl
    rotate_left
    ·simp only [Act.put, List.setIfInBounds_toArray, List.set_cons_zero, List.set_cons_succ, i64_w, i32_w]
     rfl
    refine take_ (i := 3) (N := some 84) (v := ?_) (a' := ?_) #[true, true, true, true, false, false, false, false] rfl rfl (take_ofW HT_.out HW_.out (by kernel_rfl)) (fun _ _ _ h => h) (Or.inl ⟨by rfl, ?_⟩) hHeld ?_ ?_
    rotate_left
    ·rintro w' ⟨s0, s1⟩
     go_simp
     with_reducible rfl
    rotate_left
    ·simp only [Act.put, List.setIfInBounds_toArray, List.set_cons_zero, List.set_cons_succ, i64_w, i32_w]
     rfl
    refine one_ (i := 4) (N := some 85) #[true, true, true, true, true, false, false, false] rfl rfl (one_of HT_.out (by kernel_rfl)) (by decide) (fun K hK => ?_)
    refine goes_ Try.func33 (by kernel_rfl) rfl #[.pointer (some ⟨g209, 0, none⟩), .agg #[.int .i64 t210, .slice Ao13 t211.length co13]] (by rfl) rfl rfl (by (try simp only [List.map_toArray, List.map_cons, List.map_nil]); first | done | rfl | (simp only [List.length_drop, List.length_take]; rfl)) ?_
    with_reducible refine (spec_l7Some.calls kj4 g209 t207 x210001_4 t210 _ _ t211 t252 t253 w _ ?side1 ?side2 ?side3 ?side4 A102.out).mono ?_
    (case side1 => repeat (first | (with_reducible first | exact HI209.out | apply IsS94.alloc | apply IsS94.drewN | apply IsS94.drew | apply IsS94.set_1 | refine IsS94.far ?_ NB209_206.out _ | refine IsS94.far ?_ NB209_215.out _) | exact HI209.out))
    (case side2 => repeat (first | (with_reducible first | exact HB.out | apply Yf | apply Yg | apply Yh | refine Yi ?_ (IsS94.ge HI209.out) | refine Yi ?_ GE206.out | refine Yi ?_ GE215.out) | exact HB.out))
    (case side3 => exact Kd.C_foot_own (IsS94.apart (show IsS94 w _ g209 t207 x210001_4 from by repeat (first | (with_reducible first | exact HI209.out | apply IsS94.alloc | apply IsS94.drewN | apply IsS94.drew | apply IsS94.set_1 | refine IsS94.far ?_ NB209_206.out _ | refine IsS94.far ?_ NB209_215.out _) | exact HI209.out)) (by (with_reducible repeat (first | apply Kd.R_alloc | apply Kd.R_drewN | apply Kd.R_drew)); exact HO_216001.out) (by decide)) (fun _ h_ => h_.2))
    (case side4 => exact (Kd.R_reads' HO_216001.out).2.1)
    rintro e w104 ⟨rfl, hi, hb, hk⟩
    refine ⟨_, rfl, ?_⟩
    have n0_ := Yj (Kd.R_mono (Kd.R_keep (IsS94.apart (show IsS94 w _ g209 t207 x210001_4 from by repeat (first | (with_reducible first | exact HI209.out | apply IsS94.alloc | apply IsS94.drewN | apply IsS94.drew | apply IsS94.set_1 | refine IsS94.far ?_ NB209_206.out _ | refine IsS94.far ?_ NB209_215.out _) | exact HI209.out)) (by (with_reducible repeat (first | apply Kd.R_alloc | apply Kd.R_drewN | apply Kd.R_drew)); exact HO_216001.out) (by decide)) hk (fun _ h => h.2)) (fun _ h => h.1))
    have n1_ := Yj (KeepBut.blk hk (g' := gb206) (o := .cells #[.int .i64 0, .slice none 0 0] 36 (0, 0)) (by (with_reducible repeat (first | refine Ya ?_ _ | refine Yb ?_ | refine Yc ?_ _)); exact BK206.out) NB206_209.out (by simp))
    have n2_ := Yj (KeepBut.blk hk (g' := gb215) (o := .cells #[.int .i64 t210, .slice Ao13 t211.length co13] 36 (0, 0)) (by (with_reducible repeat (first | refine Ya ?_ _ | refine Yb ?_ | refine Yc ?_ _)); exact BK215.out) NB215_209.out (by simp))
    have n3_ := Yj (hb)
    have n4_ := Yj (hi)
    clear HO_216001
    clear BK206
    clear BK215
    clear HB
    clear HI209
    have HO_216001 := n0_
    have BK206 := n1_
    have BK215 := n2_
    have HB := n3_
    have HI209 := n4_
    clear n0_ n1_ n2_ n3_ n4_
    (try clear hb)
    (try clear hb2)
    (try clear hk)
    (try clear hi)
    refine hK.out _ _ ⟨(Yd BK215.out 0).trans rfl, (Yd BK215.out 1).trans rfl⟩ (fun hHeld => ?_)
    clear hK K
    refine norm_ (a' := ?_) ?_ ?_
    rotate_left
    ·show Act.put _ (some 85) _ = _
     simp only [Act.put, List.setIfInBounds_toArray, List.set_cons_zero, List.set_cons_succ, i64_w, i32_w]
     rfl
    refine one_ (i := 5) (N := none) #[true, true, true, true, true, true, false, false] rfl rfl (one_of HT_.out (by kernel_rfl)) (by decide) (fun K hK => ?_)
    have hs105 : w104.cell? ⟨gb206, 0, none⟩ = some (.int .i64 0) := (Yd BK206.out 0).trans rfl
    have hfs105 := Ye BK206.out 0
    have hns105_1 := NB215_206.out
    have hms105_1 := NB206_215.out
    have hs106 : w104.cell? ⟨gb206, 1, none⟩ = some (.slice none 0 0) := (Yd BK206.out 1).trans rfl
    have hfs106 := Ye BK206.out 1
    have hns106_1 := NB215_206.out
    have hms106_1 := NB206_215.out
    refine skip_ (w1 := ?_) (by rfl) rfl ?_ ?_
    rotate_left
    ·go_simp
     rfl
    refine hK.out _ _ ⟨((cell_far (p := ⟨gb206, _, none⟩) NB215_206.out _).trans (((cell_far (p := ⟨gb206, _, none⟩) NB215_206.out _).trans (hHeld.1)))), ((cell_far (p := ⟨gb206, _, none⟩) NB215_206.out _).trans (((cell_far (p := ⟨gb206, _, none⟩) NB215_206.out _).trans (hHeld.2))))⟩ (fun hHeld => ?_)
    clear hK K
    refine pure_ (i := 6) (N := some 3) (v := ?_) (a' := ?_) #[true, true, true, true, true, true, true, false] rfl rfl (any_of HT_.out (by kernel_rfl)) (fun _ _ _ h => h) (Or.inl ⟨by rfl, ?_⟩) ?_ ?_
    rotate_left
    ·intro w'
     go_simp
     with_reducible rfl
    rotate_left
    ·simp only [Act.put, List.setIfInBounds_toArray, List.set_cons_zero, List.set_cons_succ, i64_w, i32_w]
     rfl
    refine pure_ (i := 7) (N := some 4) (v := ?_) (a' := ?_) #[true, true, true, true, true, true, true, true] rfl rfl (any_of HT_.out (by kernel_rfl)) (fun _ _ _ h => h) (Or.inl ⟨by rfl, ?_⟩) ?_ ?_
    rotate_left
    ·intro w'
     go_simp
     with_reducible rfl
    rotate_left
    ·simp only [Act.put, List.setIfInBounds_toArray, List.set_cons_zero, List.set_cons_succ, i64_w, i32_w]
     rfl
    refine done_ (done_of HT_.out (by kernel_rfl)) ?_
    try go_wp2
    refine bodyPost_ret (results_ctt rfl _ _ gb206 36 #[.int .i64 t210, .slice Ao13 t211.length co13] (0, 0) _ rfl (by (with_reducible repeat (first | refine Ya ?_ _ | refine Yb ?_ | refine Yc ?_ _)); refine blk_put (cs := #[.int .i64 t210, .slice none 0 0]) ?_ 1 _ rfl; (with_reducible repeat (first | refine Ya ?_ _ | refine Yb ?_ | refine Yc ?_ _)); refine blk_put (cs := #[.int .i64 0, .slice none 0 0]) ?_ 0 _ rfl; (with_reducible repeat (first | refine Ya ?_ _ | refine Yb ?_ | refine Yc ?_ _)); exact BK206.out) Try.underlying36 rfl (by kernel_rfl)) rfl ?_
    exact ⟨_, by first | rfl | (simp [errW_none, errW_some] <;> rfl) | (simp [*, errW_none, errW_some] <;> rfl), by (with_reducible repeat (first | apply Kd.R_alloc | apply Kd.R_drewN | apply Kd.R_drew)); exact Kd.R_mono (Kd.R_far (p := ⟨gb206, 1, none⟩) (Kd.R_far (p := ⟨gb206, 0, none⟩) (Kd.R_types HO_216001.out BK206.out (by decide)) (fun _ hk => hk.2) (.int .i64 t210)) (fun _ hk => hk.2) (.slice Ao13 t211.length co13)) (fun _ hk => trivial), by repeat (first | (with_reducible first | exact HB.out | apply Yf | apply Yg | apply Yh | refine Yi ?_ (IsS94.ge HI209.out) | refine Yi ?_ GE206.out | refine Yi ?_ GE215.out) | exact HB.out)⟩

/-! ### impl_in: function 47 -/
def impl_in.f (a0 : Int) (a1 : Int) (a2 : Int) : Option (Bool) := if a0 ≥ a1 then (some (decide (a0 ≤ a2))) else (some false)
set_option maxHeartbeats 8000000 in
set_option maxRecDepth 100000 in
theorem impl_in.calls (a0 : Int) (a1 : Int) (a2 : Int) (r : Bool) (w : World) (h : impl_in.f a0 a1 a2 = some r) :
  Calls Try.prog 47 #[.int .i64 a0, .int .i64 a1, .int .i64 a2] w fun e w' => e = .returned (.bool r) ∧ Drawn0 w w' := by
 have H : (if a0 ≥ a1 then (some (decide (a0 ≤ a2))) else (some false)) = some r := h
 clear h
 by_cases c4 : a0 ≥ a1
 ·rw [if_pos c4] at H
  have c4b0 : decide (a1 ≤ a0) = true := decide_eq_true c4
  clear c4
  obtain rfl := Option.some.inj H
  go_enter Try.func47, Try.ntmps47
  go_wp2
  go_ret
  exact ⟨by first | rfl | (simp; done) | (simp [*]; done), by repeat (first | exact Drawn0.refl _ | apply Drawn0.step)⟩
 ·rw [if_neg c4] at H
  have c4b0 : decide (a1 ≤ a0) = false := decide_eq_false c4
  clear c4
  obtain rfl := Option.some.inj H
  go_enter Try.func47, Try.ntmps47
  go_wp2
  go_ret
  exact ⟨by first | rfl | (simp; done) | (simp [*]; done), by repeat (first | exact Drawn0.refl _ | apply Drawn0.step)⟩

end Go.Proofs.Ythphgkhmeobadab.XFnSameEdges
