/- Printed by a program of this session out of the translation: the Go functions that a law uses as plain Lean functions, with the proofs of their calls, or the law's row.
Conditions: those that each theorem states. -/
import Derived.Test.YthphgkhmeobadaaXFnAddAndOrx0
import Derived.Test.YthphgkhmeobadaaXFnAddAndOrx1
namespace Go.Proofs.Ythphgkhmeobadaa.XFnAddAndOr
open Go.RowKit Go.Proofs.YthphgkhmeobadaaW.PrintWords Go.Proofs.YthphgkhmeobadaaW.PrintLast Go.Proofs.YthphgkhmeobadaaW.PrintMore
attribute [local go_sem] max2_int min2_int max_two min_two max_three min_three max_four min_four   -- for this text's walks alone
set_option linter.unusedVariables false
set_option linter.unusedSimpArgs false

/-! ### spec_l7And: function 19 -/
mutual
def spec_l7And.j0 : Nat → Int → Int → Int → List (S57) → Option (Int × (List (S57)) × Int)
 | 0, _, _, _, _ => none
 | k + 1, x1, x2, x115000, x115001 => if x1 = 0 then (spec_l7And.j1 k x1 x2 true x115000 x115001) else (if (wrap64 (Int.tdiv x1 2)) = (wrap64 (Int.tdiv x2 2)) then (spec_l7And.j1 k x1 x2 (x1 != x2) x115000 x115001) else (spec_l7And.j1 k x1 x2 false x115000 x115001))
def spec_l7And.j1 : Nat → Int → Int → Bool → Int → List (S57) → Option (Int × (List (S57)) × Int)
 | 0, _, _, _, _, _ => none
 | k + 1, x1, x2, x29, x115000, x115001 => if x29 = true then (some (x115000, x115001, 0)) else (if x1 = 1 then (spec_l7And.j2 k x1 x2 true x115000 x115001) else (spec_l7And.j2 k x1 x2 (x1 == x2) x115000 x115001))
def spec_l7And.j2 : Nat → Int → Int → Bool → Int → List (S57) → Option (Int × (List (S57)) × Int)
 | 0, _, _, _, _, _ => none
 | k + 1, x1, x2, x37, x115000, x115001 => if x37 = true then (some (x115000, x115001, x2)) else ((spec_l7Find.f k x115000 x115001 x1 x2).bind fun t116 => (if t116 ≥ 0 then (some (x115000, x115001, wrap64 (2 * t116))) else (if (x115001.length : Int) ≥ 600 then (some (x115000, x115001, (-1))) else (if x115001.length < 8796093022208 then ((some (x115001 ++ [(⟨x1, x2⟩ : S57)] : List (S57))).bind fun y117 => ((spec_l7Nodes.f x115000 y117).bind fun t120 => (some (x115000, y117, wrap64 (2 * (wrap64 (t120 - 1))))))) else (none)))))
end
def spec_l7And.f (k : Nat) (a0_0 : Int) (l0_1 : List (S57)) (a1 : Int) (a2 : Int) : Option (Int × (List (S57)) × Int) := if a1 > a2 then (spec_l7And.j0 k a2 a1 a0_0 l0_1) else (spec_l7And.j0 k a1 a2 a0_0 l0_1)
theorem spec_l7And.mono_l : ∀ k, (∀ y0 y1 y2 y3, LeO (spec_l7And.j0 k y0 y1 y2 y3) (spec_l7And.j0 (k + 1) y0 y1 y2 y3)) ∧ (∀ y0 y1 y2 y3 y4, LeO (spec_l7And.j1 k y0 y1 y2 y3 y4) (spec_l7And.j1 (k + 1) y0 y1 y2 y3 y4)) ∧ (∀ y0 y1 y2 y3 y4, LeO (spec_l7And.j2 k y0 y1 y2 y3 y4) (spec_l7And.j2 (k + 1) y0 y1 y2 y3 y4))
 | 0 => ⟨fun _ _ _ _ r h => by simp [spec_l7And.j0] at h, fun _ _ _ _ _ r h => by simp [spec_l7And.j1] at h, fun _ _ _ _ _ r h => by simp [spec_l7And.j2] at h⟩
 | k + 1 => by
  obtain ⟨ih0, ih1, ih2⟩ := spec_l7And.mono_l k
  refine ⟨?_, ?_, ?_⟩
  ·intro y0 y1 y2 y3
   unfold spec_l7And.j0
   repeat' first
   | (with_reducible exact ih0 _ _ _ _)
   | (with_reducible exact ih1 _ _ _ _ _)
   | (with_reducible exact ih2 _ _ _ _ _)
   | (with_reducible exact spec_l7Find.mono _ _ _ _ _)
   | (with_reducible exact LeO.refl _)
   | (with_reducible exact LeO.none _)
   | (with_reducible refine LeO.ite ?_ ?_)
   | (with_reducible refine LeO.bind ?_ (fun _ => ?_))
   | exact ih0 _ _ _ _
   | exact ih1 _ _ _ _ _
   | exact ih2 _ _ _ _ _
   | exact spec_l7Find.mono _ _ _ _ _
   | exact LeO.none _
   | refine LeO.ite ?_ ?_
   | refine LeO.bind ?_ (fun _ => ?_)
  ·intro y0 y1 y2 y3 y4
   unfold spec_l7And.j1
   repeat' first
   | (with_reducible exact ih0 _ _ _ _)
   | (with_reducible exact ih1 _ _ _ _ _)
   | (with_reducible exact ih2 _ _ _ _ _)
   | (with_reducible exact spec_l7Find.mono _ _ _ _ _)
   | (with_reducible exact LeO.refl _)
   | (with_reducible exact LeO.none _)
   | (with_reducible refine LeO.ite ?_ ?_)
   | (with_reducible refine LeO.bind ?_ (fun _ => ?_))
   | exact ih0 _ _ _ _
   | exact ih1 _ _ _ _ _
   | exact ih2 _ _ _ _ _
   | exact spec_l7Find.mono _ _ _ _ _
   | exact LeO.none _
   | refine LeO.ite ?_ ?_
   | refine LeO.bind ?_ (fun _ => ?_)
  ·intro y0 y1 y2 y3 y4
   unfold spec_l7And.j2
   repeat' first
   | (with_reducible exact ih0 _ _ _ _)
   | (with_reducible exact ih1 _ _ _ _ _)
   | (with_reducible exact ih2 _ _ _ _ _)
   | (with_reducible exact spec_l7Find.mono _ _ _ _ _)
   | (with_reducible exact LeO.refl _)
   | (with_reducible exact LeO.none _)
   | (with_reducible refine LeO.ite ?_ ?_)
   | (with_reducible refine LeO.bind ?_ (fun _ => ?_))
   | exact ih0 _ _ _ _
   | exact ih1 _ _ _ _ _
   | exact ih2 _ _ _ _ _
   | exact spec_l7Find.mono _ _ _ _ _
   | exact LeO.none _
   | refine LeO.ite ?_ ?_
   | refine LeO.bind ?_ (fun _ => ?_)
theorem spec_l7And.mono : ∀ a0 a1 a2 a3 k, LeO (spec_l7And.f k a0 a1 a2 a3) (spec_l7And.f (k + 1) a0 a1 a2 a3) := by
 intro a0 a1 a2 a3 k
 obtain ⟨ih0, ih1, ih2⟩ := spec_l7And.mono_l k
 unfold spec_l7And.f
 repeat' first
   | (with_reducible exact ih0 _ _ _ _)
   | (with_reducible exact ih1 _ _ _ _ _)
   | (with_reducible exact ih2 _ _ _ _ _)
   | (with_reducible exact spec_l7Find.mono _ _ _ _ _)
   | (with_reducible exact LeO.refl _)
   | (with_reducible exact LeO.none _)
   | (with_reducible refine LeO.ite ?_ ?_)
   | (with_reducible refine LeO.bind ?_ (fun _ => ?_))
   | exact ih0 _ _ _ _
   | exact ih1 _ _ _ _ _
   | exact ih2 _ _ _ _ _
   | exact spec_l7Find.mono _ _ _ _ _
   | exact LeO.none _
   | refine LeO.ite ?_ ?_
   | refine LeO.bind ?_ (fun _ => ?_)
set_option maxHeartbeats 8000000 in
set_option maxRecDepth 100000 in
theorem spec_l7And.calls (k : Nat) (a0_0 : Int) (P0_1_ : Nat → Prop) (u9000_ : Value) (l0_1 : List (S57)) (a1 : Int) (a2 : Int) (r1 : Int) (r2 : List (S57)) (r3 : Int) (w0 w : World) (hB : Below w0.heap.size w0 w) (ho0_1 : Kd.R k57 57 w w0.heap.size P0_1_ u9000_ l0_1) (h : spec_l7And.f k a0_0 l0_1 a1 a2 = some (r1, r2, r3)) :
  Calls Try.prog 19 #[.agg #[.int .i64 a0_0, u9000_], .int .i64 a1, .int .i64 a2] w fun e w' => ∃ v1_ : Value, e = .returned (.tuple #[.agg #[.int .i64 r1, v1_], .int .i64 r3]) ∧ Kd.R k57 57 w' w0.heap.size (fun k_ => (P0_1_ k_ ∨ w.heap.size ≤ k_)) v1_ r2 ∧ Below w0.heap.size w0 w' ∧ Kept w w' (fun k_ => P0_1_ k_) := by
 have hu28 := Try.underlying28
 have hu57 := Try.underlying57
 have HO0_1 := Yj (show Kd.R k57 57 w w0.heap.size (fun k_ => (P0_1_ k_ ∨ w.heap.size ≤ k_)) u9000_ l0_1 from Kd.R_mono ho0_1 (fun k_ hk => (.inl hk)))
 have HK := Yj (Kept.refl w (fun k_ => P0_1_ k_))
 have HW0 := Yj hB.size
 have HB := Yj hB
 clear hB
 have H : (if a1 > a2 then (spec_l7And.j0 k a2 a1 a0_0 l0_1) else (spec_l7And.j0 k a1 a2 a0_0 l0_1)) = some (r1, r2, r3) := h
 clear h
 have HC4 := Yj H
 clear H
 obtain ⟨Ao5, co5, eo5⟩ := Kd.R_slice HO0_1.out
 subst eo5
 go_enter Try.func19, Try.ntmps19
 go_upto_if 12 with (first | ((with_reducible refine gate_dst (N := 3) rfl ?_); refine box_event ?hg (N := 3) ?hd (cs := #[.int .i64 a0_0, .slice Ao5 l0_1.length co5]) (t := 28) ?hr ?_; (case hd => rfl); (case hg => rfl); (case hr => first | (go_simp; done) | (go_simp; rfl)); intro gb114 hg w6 hbox hb; have n0_ := Yj (Kd.R_below (by (with_reducible repeat (first | apply Yl | apply Yk | apply Kd.R_drew)); exact HO0_1.out) hb); have n1_ := Yj (Kept.below (S := (fun k_ => P0_1_ k_)) (by repeat (first | (with_reducible first | exact HK.out | apply Kept.alloc | apply Kept.drewN | apply Kept.drew) | exact HK.out)) hb); have n2_ := Yj (below_step (by repeat (first | (with_reducible first | exact HB.out | apply Yf | apply Yg | apply Yh) | exact HB.out)) hb); have n3_ := Yj (hbox); have n4_ := Yj ((by rw [hg]; exact (by first | exact HK.out.1 | exact (show Kept w _ (fun k_ => P0_1_ k_) from by repeat (first | (with_reducible first | exact HK.out | apply Kept.alloc | apply Kept.drewN | apply Kept.drew) | exact HK.out)).1) : w.heap.size ≤ gb114)); have n5_ := Yj ((by rw [hg]; exact (below_size (by repeat (first | (with_reducible first | exact HB.out | apply Yf | apply Yg | apply Yh) | exact HB.out))) : w0.heap.size ≤ gb114)); clear HO0_1; clear HK; clear HB; have HO0_1 := n0_; have HK := n1_; have HB := n2_; have BK114 := n3_; have GW114 := n4_; have GE114 := n5_; clear n0_ n1_ n2_ n3_ n4_ n5_; clear hb hbox hg) | ((with_reducible refine gate_dst (N := 6) rfl ?_); refine box_event ?hg (N := 6) ?hd (cs := #[.int .i64 0, .slice none 0 0]) (t := 28) ?hr ?_; (case hd => rfl); (case hg => rfl); (case hr => first | (go_simp; done) | (go_simp; rfl)); intro gb115 hg w7 hbox hb; have n0_ := Yj (Kd.R_below (by (with_reducible repeat (first | apply Yl | apply Yk | apply Kd.R_drew)); exact HO0_1.out) hb); have n1_ := Yj (blk_below (g := gb114) (o := .cells #[.int .i64 a0_0, .slice Ao5 l0_1.length co5] 28 (0, 0)) (by (with_reducible repeat (first | refine Ya ?_ _ | refine Yb ?_ | refine Yc ?_ _)); exact BK114.out) hb); have n2_ := Yj (Kept.below (S := (fun k_ => P0_1_ k_)) (by repeat (first | (with_reducible first | exact HK.out | apply Kept.alloc | apply Kept.drewN | apply Kept.drew | refine Kept.setCell ?_ (.inr GW114.out) _) | exact HK.out)) hb); have n3_ := Yj (below_step (by repeat (first | (with_reducible first | exact HB.out | apply Yf | apply Yg | apply Yh | refine Yi ?_ GE114.out) | exact HB.out)) hb); have n4_ := Yj (hbox); have n5_ := Yj ((by rw [hg]; exact (by first | exact HK.out.1 | exact (show Kept w _ (fun k_ => P0_1_ k_) from by repeat (first | (with_reducible first | exact HK.out | apply Kept.alloc | apply Kept.drewN | apply Kept.drew | refine Kept.setCell ?_ (.inr GW114.out) _) | exact HK.out)).1) : w.heap.size ≤ gb115)); have n6_ := Yj ((by rw [hg]; exact (below_size (by repeat (first | (with_reducible first | exact HB.out | apply Yf | apply Yg | apply Yh | refine Yi ?_ GE114.out) | exact HB.out))) : w0.heap.size ≤ gb115)); have n7_ := Yj ((by rw [hg]; exact Nat.ne_of_lt (blk_lt (g := gb114) (o := .cells #[.int .i64 a0_0, .slice Ao5 l0_1.length co5] 28 (0, 0)) (by (with_reducible repeat (first | refine Ya ?_ _ | refine Yb ?_ | refine Yc ?_ _)); exact BK114.out)) : gb114 ≠ gb115)); have n8_ := Yj ((by rw [hg]; exact Nat.ne_of_gt (blk_lt (g := gb114) (o := .cells #[.int .i64 a0_0, .slice Ao5 l0_1.length co5] 28 (0, 0)) (by (with_reducible repeat (first | refine Ya ?_ _ | refine Yb ?_ | refine Yc ?_ _)); exact BK114.out)) : gb115 ≠ gb114)); clear HO0_1; clear BK114; clear HK; clear HB; have HO0_1 := n0_; have BK114 := n1_; have HK := n2_; have HB := n3_; have BK115 := n4_; have GW115 := n5_; have GE115 := n6_; have NB114_115 := n7_; have NB115_114 := n8_; clear n0_ n1_ n2_ n3_ n4_ n5_ n6_ n7_ n8_; clear hb hbox hg))
 (try simp only [Act.put, List.setIfInBounds_toArray, List.set_cons_zero, List.set_cons_succ])
 go_cut [1, 2] (fun v1 v2 wc => ∃ (kq : Nat) (x1_3 : Int) (x2_3 : Int), v1 = .int .i64 x1_3 ∧ v2 = .int .i64 x2_3 ∧ Aside0 (spec_l7And.j0 kq x1_3 x2_3 a0_0 l0_1 = some (r1, r2, r3)) ∧ Aside0 (kq ≤ k) ∧ Aside0 (Kd.R k57 57 wc w0.heap.size (fun k_ => (P0_1_ k_ ∨ w.heap.size ≤ k_)) (.slice Ao5 l0_1.length co5) l0_1) ∧ Aside0 (wc.heap[gb114]? = some (.cells #[.int .i64 a0_0, (.slice Ao5 l0_1.length co5)] 28 (0, 0))) ∧ Aside0 (wc.heap[gb115]? = some (.cells #[.int .i64 0, (.slice none 0 0)] 28 (0, 0))) ∧ Aside0 (Kept w wc (fun k_ => P0_1_ k_)) ∧ Aside0 (Below w0.heap.size w0 wc))
 case first =>
  have H := HC4.out
  clear HC4
  by_cases c8 : a1 > a2
  ·rw [if_pos c8] at H
   have c8b0 : decide (a2 < a1) = true := decide_eq_true c8
   clear c8
   (first | rw [c8b0] | (simp only [i64_w, i32_w]; rw [c8b0]) | rw [c8b1] | simp only [c8b1] | skip)
   have H' := Yj H
   clear H
   go_wp2
   go_meet
   case rel => exact ⟨_, (a2), (a1), (by first | rfl | (simp; done) | (simp [*]; done)), (by first | rfl | (simp; done) | (simp [*]; done)), H', ⟨by first | omega | exact Nat.le_refl _⟩, ⟨by (with_reducible repeat (first | apply Yl | apply Yk | apply Kd.R_drew)); exact HO0_1.out⟩, ⟨by (with_reducible repeat (first | refine Ya ?_ _ | refine Yb ?_ | refine Yc ?_ _)); exact BK114.out⟩, ⟨by (with_reducible repeat (first | refine Ya ?_ _ | refine Yb ?_ | refine Yc ?_ _)); exact BK115.out⟩, ⟨by repeat (first | (with_reducible first | exact HK.out | apply Kept.alloc | apply Kept.drewN | apply Kept.drew | refine Kept.setCell ?_ (.inr GW114.out) _ | refine Kept.setCell ?_ (.inr GW115.out) _) | exact HK.out)⟩, ⟨by repeat (first | (with_reducible first | exact HB.out | apply Yf | apply Yg | apply Yh | refine Yi ?_ GE114.out | refine Yi ?_ GE115.out) | exact HB.out)⟩⟩
  ·rw [if_neg c8] at H
   have c8b0 : decide (a2 < a1) = false := decide_eq_false c8
   clear c8
   (first | rw [c8b0] | (simp only [i64_w, i32_w]; rw [c8b0]) | rw [c8b1] | simp only [c8b1] | skip)
   have H' := Yj H
   clear H
   go_wp2
   go_meet
   case rel => exact ⟨_, (a1), (a2), (by first | rfl | (simp; done) | (simp [*]; done)), (by first | rfl | (simp; done) | (simp [*]; done)), H', ⟨by first | omega | exact Nat.le_refl _⟩, ⟨by (with_reducible repeat (first | apply Yl | apply Yk | apply Kd.R_drew)); exact HO0_1.out⟩, ⟨by (with_reducible repeat (first | refine Ya ?_ _ | refine Yb ?_ | refine Yc ?_ _)); exact BK114.out⟩, ⟨by (with_reducible repeat (first | refine Ya ?_ _ | refine Yb ?_ | refine Yc ?_ _)); exact BK115.out⟩, ⟨by repeat (first | (with_reducible first | exact HK.out | apply Kept.alloc | apply Kept.drewN | apply Kept.drew | refine Kept.setCell ?_ (.inr GW114.out) _ | refine Kept.setCell ?_ (.inr GW115.out) _) | exact HK.out)⟩, ⟨by repeat (first | (with_reducible first | exact HB.out | apply Yf | apply Yg | apply Yh | refine Yi ?_ GE114.out | refine Yi ?_ GE115.out) | exact HB.out)⟩⟩
 case rest =>
  clear HC4
  try clear c1
  try clear p2
  try clear c8
  try clear c8b0
  try clear c8b1
  obtain ⟨kq, x1_3, x2_3, rfl, rfl, HA, HJ3, HO_115001, BK114, BK115, HK, HB⟩ := hcut
  cases kq with
  | zero => exact absurd HA.out (by simp [spec_l7And.j0])
  | succ kj3 =>
   have H := HA.out
   clear HA
   simp only [spec_l7And.j0] at H
   have HC9 := Yj H
   clear H
   go_upto_region 5 with (fail)
   go_cut [29] (fun v29 wc => ∃ (kq : Nat) (x29_8 : Bool), v29 = .bool x29_8 ∧ Aside0 (spec_l7And.j1 kq x1_3 x2_3 x29_8 a0_0 l0_1 = some (r1, r2, r3)) ∧ Aside0 (kq ≤ kj3) ∧ Aside0 (Kd.R k57 57 wc w0.heap.size (fun k_ => (P0_1_ k_ ∨ w.heap.size ≤ k_)) (.slice Ao5 l0_1.length co5) l0_1) ∧ Aside0 (wc.heap[gb114]? = some (.cells #[.int .i64 a0_0, (.slice Ao5 l0_1.length co5)] 28 (0, 0))) ∧ Aside0 (wc.heap[gb115]? = some (.cells #[.int .i64 0, (.slice none 0 0)] 28 (0, 0))) ∧ Aside0 (Kept w wc (fun k_ => P0_1_ k_)) ∧ Aside0 (Below w0.heap.size w0 wc))
   case first =>
    have H := HC9.out
    clear HC9
    by_cases c10 : x1_3 = 0
    ·rw [if_pos c10] at H
     have c10b0 : (x1_3 == 0) = true := beq_iff_eq.mpr c10
     have c10b1 : (x1_3 != 0) = false := bne_eq_false_iff_eq.mpr c10
     clear c10
     (first | rw [c10b0] | (simp only [i64_w, i32_w]; rw [c10b0]) | rw [c10b1] | simp only [c10b1] | skip)
     have H' := Yj H
     clear H
     go_wp2
     go_meet
     case rel => exact ⟨_, (true), (by first | rfl | (simp; done) | (simp [*]; done)), H', ⟨by have := HJ3.out; first | omega | exact Nat.le_refl _⟩, ⟨by (with_reducible repeat (first | apply Yl | apply Yk | apply Kd.R_drew)); exact HO_115001.out⟩, ⟨by (with_reducible repeat (first | refine Ya ?_ _ | refine Yb ?_ | refine Yc ?_ _)); exact BK114.out⟩, ⟨by (with_reducible repeat (first | refine Ya ?_ _ | refine Yb ?_ | refine Yc ?_ _)); exact BK115.out⟩, ⟨by repeat (first | (with_reducible first | exact HK.out | apply Kept.alloc | apply Kept.drewN | apply Kept.drew | refine Kept.setCell ?_ (.inr GW114.out) _ | refine Kept.setCell ?_ (.inr GW115.out) _) | exact HK.out)⟩, ⟨by repeat (first | (with_reducible first | exact HB.out | apply Yf | apply Yg | apply Yh | refine Yi ?_ GE114.out | refine Yi ?_ GE115.out) | exact HB.out)⟩⟩
    ·rw [if_neg c10] at H
     have c10b0 : (x1_3 == 0) = false := beq_eq_false_iff_ne.mpr c10
     have c10b1 : (x1_3 != 0) = true := bne_iff_ne.mpr c10
     (first | rw [c10b0] | (simp only [i64_w, i32_w]; rw [c10b0]) | rw [c10b1] | simp only [c10b1] | skip)
     by_cases c11 : (wrap64 (Int.tdiv x1_3 2)) = (wrap64 (Int.tdiv x2_3 2))
     ·rw [if_pos c11] at H
      have c11b0 : ((wrap64 (Int.tdiv x1_3 2)) == (wrap64 (Int.tdiv x2_3 2))) = true := beq_iff_eq.mpr c11
      have c11b1 : ((wrap64 (Int.tdiv x1_3 2)) != (wrap64 (Int.tdiv x2_3 2))) = false := bne_eq_false_iff_eq.mpr c11
      clear c11
      have H' := Yj H
      clear H
      go_wp2
      go_meet
      case rel => exact ⟨_, ((x1_3 != x2_3)), (by first | rfl | (simp; done) | (simp [*]; done)), H', ⟨by have := HJ3.out; first | omega | exact Nat.le_refl _⟩, ⟨by (with_reducible repeat (first | apply Yl | apply Yk | apply Kd.R_drew)); exact HO_115001.out⟩, ⟨by (with_reducible repeat (first | refine Ya ?_ _ | refine Yb ?_ | refine Yc ?_ _)); exact BK114.out⟩, ⟨by (with_reducible repeat (first | refine Ya ?_ _ | refine Yb ?_ | refine Yc ?_ _)); exact BK115.out⟩, ⟨by repeat (first | (with_reducible first | exact HK.out | apply Kept.alloc | apply Kept.drewN | apply Kept.drew | refine Kept.setCell ?_ (.inr GW114.out) _ | refine Kept.setCell ?_ (.inr GW115.out) _) | exact HK.out)⟩, ⟨by repeat (first | (with_reducible first | exact HB.out | apply Yf | apply Yg | apply Yh | refine Yi ?_ GE114.out | refine Yi ?_ GE115.out) | exact HB.out)⟩⟩
     ·rw [if_neg c11] at H
      have c11b0 : ((wrap64 (Int.tdiv x1_3 2)) == (wrap64 (Int.tdiv x2_3 2))) = false := beq_eq_false_iff_ne.mpr c11
      have c11b1 : ((wrap64 (Int.tdiv x1_3 2)) != (wrap64 (Int.tdiv x2_3 2))) = true := bne_iff_ne.mpr c11
      have H' := Yj H
      clear H
      go_wp2
      go_meet
      case rel => exact ⟨_, (false), (by first | rfl | (simp; done) | (simp [*]; done)), H', ⟨by have := HJ3.out; first | omega | exact Nat.le_refl _⟩, ⟨by (with_reducible repeat (first | apply Yl | apply Yk | apply Kd.R_drew)); exact HO_115001.out⟩, ⟨by (with_reducible repeat (first | refine Ya ?_ _ | refine Yb ?_ | refine Yc ?_ _)); exact BK114.out⟩, ⟨by (with_reducible repeat (first | refine Ya ?_ _ | refine Yb ?_ | refine Yc ?_ _)); exact BK115.out⟩, ⟨by repeat (first | (with_reducible first | exact HK.out | apply Kept.alloc | apply Kept.drewN | apply Kept.drew | refine Kept.setCell ?_ (.inr GW114.out) _ | refine Kept.setCell ?_ (.inr GW115.out) _) | exact HK.out)⟩, ⟨by repeat (first | (with_reducible first | exact HB.out | apply Yf | apply Yg | apply Yh | refine Yi ?_ GE114.out | refine Yi ?_ GE115.out) | exact HB.out)⟩⟩
   case rest =>
    clear HC9
    try clear c1
    try clear p2
    try clear p6
    try clear c8
    try clear c8b0
    try clear c8b1
    try clear c10
    try clear c10b0
    try clear c10b1
    try clear c11
    try clear c11b0
    try clear c11b1
    try clear p2
    obtain ⟨kq, x29_8, rfl, HA, HJ8, HO_115001, BK114, BK115, HK, HB⟩ := hcut
    cases kq with
    | zero => exact absurd HA.out (by simp [spec_l7And.j1])
    | succ kj8 =>
     have H := HA.out
     clear HA
     simp only [spec_l7And.j1] at H
     by_cases c12 : x29_8 = true
     ·subst c12
      have H1 : (some (a0_0, l0_1, 0)) = some (r1, r2, r3) := by rw [if_pos rfl] at H; exact H
      clear H
      have H := H1
      clear H1
      simp only [Option.some.injEq, Prod.mk.injEq] at H
      obtain ⟨rfl, rfl, rfl⟩ := H
      have hnb13 := NB114_115.out
      have hnc13 := NB115_114.out
      have hcz14_0 : wc.cell? ⟨gb114, 0, none⟩ = some (.int .i64 a0_0) := (Yd BK114.out 0).trans rfl
      have hcz14_1 : wc.cell? ⟨gb114, 1, none⟩ = some (.slice Ao5 l0_1.length co5) := (Yd BK114.out 1).trans rfl
      have hfz14_0 := Ye BK114.out 0
      have hfz14_1 := Ye BK114.out 1
      have hcz15_0 : wc.cell? ⟨gb115, 0, none⟩ = some (.int .i64 0) := (Yd BK115.out 0).trans rfl
      have hcz15_1 : wc.cell? ⟨gb115, 1, none⟩ = some (.slice none 0 0) := (Yd BK115.out 1).trans rfl
      have hfz15_0 := Ye BK115.out 0
      have hfz15_1 := Ye BK115.out 1
      go_wp2
      refine bodyPost_ret (results_ct rfl _ _ gb115 28 #[.int .i64 a0_0, .slice Ao5 l0_1.length co5] (0, 0) _ rfl (by (with_reducible repeat (first | refine Ya ?_ _ | refine Yb ?_ | refine Yc ?_ _)); refine blk_put (cs := #[.int .i64 a0_0, .slice none 0 0]) ?_ 1 _ rfl; (with_reducible repeat (first | refine Ya ?_ _ | refine Yb ?_ | refine Yc ?_ _)); refine blk_put (cs := #[.int .i64 0, .slice none 0 0]) ?_ 0 _ rfl; (with_reducible repeat (first | refine Ya ?_ _ | refine Yb ?_ | refine Yc ?_ _)); exact BK115.out) Try.underlying28 rfl (by kernel_rfl)) rfl ?_
      exact ⟨_, by first | rfl | (simp [errW_none, errW_some] <;> rfl) | (simp [*, errW_none, errW_some] <;> rfl), by (with_reducible repeat (first | apply Yl | apply Yk | apply Kd.R_drew)); exact Kd.R_mono (Kd.R_far (p := ⟨gb115, 1, none⟩) (Kd.R_far (p := ⟨gb115, 0, none⟩) (Kd.R_types HO_115001.out BK115.out (by decide)) (fun _ hk => hk.2) (.int .i64 a0_0)) (fun _ hk => hk.2) (.slice Ao5 l0_1.length co5)) (fun _ hk => hk.1), by repeat (first | (with_reducible first | exact HB.out | apply Yf | apply Yg | apply Yh | refine Yi ?_ GE114.out | refine Yi ?_ GE115.out) | exact HB.out), by repeat (first | (with_reducible first | exact HK.out | apply Kept.alloc | apply Kept.drewN | apply Kept.drew | refine Kept.setCell ?_ (.inr GW114.out) _ | refine Kept.setCell ?_ (.inr GW115.out) _) | exact HK.out)⟩
     ·replace c12 := Bool.eq_false_iff.mpr c12
      subst c12
      have H1 : (if x1_3 = 1 then (spec_l7And.j2 kj8 x1_3 x2_3 true a0_0 l0_1) else (spec_l7And.j2 kj8 x1_3 x2_3 (x1_3 == x2_3) a0_0 l0_1)) = some (r1, r2, r3) := by rw [if_neg (show ¬ (false = true) by decide)] at H; exact H
      clear H
      have H := H1
      clear H1
      have HC16 := Yj H
      clear H
      go_upto_region 7 with (fail)
      go_cut [37] (fun v37 wc => ∃ (kq : Nat) (x37_15 : Bool), v37 = .bool x37_15 ∧ Aside0 (spec_l7And.j2 kq x1_3 x2_3 x37_15 a0_0 l0_1 = some (r1, r2, r3)) ∧ Aside0 (kq ≤ kj8) ∧ Aside0 (Kd.R k57 57 wc w0.heap.size (fun k_ => (P0_1_ k_ ∨ w.heap.size ≤ k_)) (.slice Ao5 l0_1.length co5) l0_1) ∧ Aside0 (wc.heap[gb114]? = some (.cells #[.int .i64 a0_0, (.slice Ao5 l0_1.length co5)] 28 (0, 0))) ∧ Aside0 (wc.heap[gb115]? = some (.cells #[.int .i64 0, (.slice none 0 0)] 28 (0, 0))) ∧ Aside0 (Kept w wc (fun k_ => P0_1_ k_)) ∧ Aside0 (Below w0.heap.size w0 wc))
      case first =>
       have H := HC16.out
       clear HC16
       by_cases c17 : x1_3 = 1
       ·rw [if_pos c17] at H
        have c17b0 : (x1_3 == 1) = true := beq_iff_eq.mpr c17
        have c17b1 : (x1_3 != 1) = false := bne_eq_false_iff_eq.mpr c17
        clear c17
        (first | rw [c17b0] | (simp only [i64_w, i32_w]; rw [c17b0]) | rw [c17b1] | simp only [c17b1] | skip)
        have H' := Yj H
        clear H
        go_wp2
        go_meet
        case rel => exact ⟨_, (true), (by first | rfl | (simp; done) | (simp [*]; done)), H', ⟨by have := HJ3.out; have := HJ8.out; first | omega | exact Nat.le_refl _⟩, ⟨by (with_reducible repeat (first | apply Yl | apply Yk | apply Kd.R_drew)); exact HO_115001.out⟩, ⟨by (with_reducible repeat (first | refine Ya ?_ _ | refine Yb ?_ | refine Yc ?_ _)); exact BK114.out⟩, ⟨by (with_reducible repeat (first | refine Ya ?_ _ | refine Yb ?_ | refine Yc ?_ _)); exact BK115.out⟩, ⟨by repeat (first | (with_reducible first | exact HK.out | apply Kept.alloc | apply Kept.drewN | apply Kept.drew | refine Kept.setCell ?_ (.inr GW114.out) _ | refine Kept.setCell ?_ (.inr GW115.out) _) | exact HK.out)⟩, ⟨by repeat (first | (with_reducible first | exact HB.out | apply Yf | apply Yg | apply Yh | refine Yi ?_ GE114.out | refine Yi ?_ GE115.out) | exact HB.out)⟩⟩
       ·rw [if_neg c17] at H
        have c17b0 : (x1_3 == 1) = false := beq_eq_false_iff_ne.mpr c17
        have c17b1 : (x1_3 != 1) = true := bne_iff_ne.mpr c17
        (first | rw [c17b0] | (simp only [i64_w, i32_w]; rw [c17b0]) | rw [c17b1] | simp only [c17b1] | skip)
        have H' := Yj H
        clear H
        go_wp2
        go_meet
        case rel => exact ⟨_, ((x1_3 == x2_3)), (by first | rfl | (simp; done) | (simp [*]; done)), H', ⟨by have := HJ3.out; have := HJ8.out; first | omega | exact Nat.le_refl _⟩, ⟨by (with_reducible repeat (first | apply Yl | apply Yk | apply Kd.R_drew)); exact HO_115001.out⟩, ⟨by (with_reducible repeat (first | refine Ya ?_ _ | refine Yb ?_ | refine Yc ?_ _)); exact BK114.out⟩, ⟨by (with_reducible repeat (first | refine Ya ?_ _ | refine Yb ?_ | refine Yc ?_ _)); exact BK115.out⟩, ⟨by repeat (first | (with_reducible first | exact HK.out | apply Kept.alloc | apply Kept.drewN | apply Kept.drew | refine Kept.setCell ?_ (.inr GW114.out) _ | refine Kept.setCell ?_ (.inr GW115.out) _) | exact HK.out)⟩, ⟨by repeat (first | (with_reducible first | exact HB.out | apply Yf | apply Yg | apply Yh | refine Yi ?_ GE114.out | refine Yi ?_ GE115.out) | exact HB.out)⟩⟩
      case rest =>
       clear HC16
       try clear c1
       try clear p2
       try clear p6
       try clear c8
       try clear c8b0
       try clear c8b1
       try clear c10
       try clear c10b0
       try clear c10b1
       try clear c11
       try clear c11b0
       try clear c11b1
       try clear c12
       try clear c13
       try clear c17
       try clear c17b0
       try clear c17b1
       try clear hcz14_0
       try clear hcz14_1
       try clear hcz15_0
       try clear hcz15_1
       try clear hfz14_0
       try clear hfz14_1
       try clear hfz15_0
       try clear hfz15_1
       try clear p2
       try clear p6
       obtain ⟨kq, x37_15, rfl, HA, HJ15, HO_115001, BK114, BK115, HK, HB⟩ := hcut
       cases kq with
       | zero => exact absurd HA.out (by simp [spec_l7And.j2])
       | succ kj15 =>
        have H := HA.out
        clear HA
        simp only [spec_l7And.j2] at H
        by_cases c18 : x37_15 = true
        ·subst c18
         have H1 : (some (a0_0, l0_1, x2_3)) = some (r1, r2, r3) := by rw [if_pos rfl] at H; exact H
         clear H
         have H := H1
         clear H1
         simp only [Option.some.injEq, Prod.mk.injEq] at H
         obtain ⟨rfl, rfl, rfl⟩ := H
         have hnb19 := NB114_115.out
         have hnc19 := NB115_114.out
         have hcz20_0 : wc.cell? ⟨gb114, 0, none⟩ = some (.int .i64 a0_0) := (Yd BK114.out 0).trans rfl
         have hcz20_1 : wc.cell? ⟨gb114, 1, none⟩ = some (.slice Ao5 l0_1.length co5) := (Yd BK114.out 1).trans rfl
         have hfz20_0 := Ye BK114.out 0
         have hfz20_1 := Ye BK114.out 1
         have hcz21_0 : wc.cell? ⟨gb115, 0, none⟩ = some (.int .i64 0) := (Yd BK115.out 0).trans rfl
         have hcz21_1 : wc.cell? ⟨gb115, 1, none⟩ = some (.slice none 0 0) := (Yd BK115.out 1).trans rfl
         have hfz21_0 := Ye BK115.out 0
         have hfz21_1 := Ye BK115.out 1
         go_wp2
         refine bodyPost_ret (results_ct rfl _ _ gb115 28 #[.int .i64 a0_0, .slice Ao5 l0_1.length co5] (0, 0) _ rfl (by (with_reducible repeat (first | refine Ya ?_ _ | refine Yb ?_ | refine Yc ?_ _)); refine blk_put (cs := #[.int .i64 a0_0, .slice none 0 0]) ?_ 1 _ rfl; (with_reducible repeat (first | refine Ya ?_ _ | refine Yb ?_ | refine Yc ?_ _)); refine blk_put (cs := #[.int .i64 0, .slice none 0 0]) ?_ 0 _ rfl; (with_reducible repeat (first | refine Ya ?_ _ | refine Yb ?_ | refine Yc ?_ _)); exact BK115.out) Try.underlying28 rfl (by kernel_rfl)) rfl ?_
         exact ⟨_, by first | rfl | (simp [errW_none, errW_some] <;> rfl) | (simp [*, errW_none, errW_some] <;> rfl), by (with_reducible repeat (first | apply Yl | apply Yk | apply Kd.R_drew)); exact Kd.R_mono (Kd.R_far (p := ⟨gb115, 1, none⟩) (Kd.R_far (p := ⟨gb115, 0, none⟩) (Kd.R_types HO_115001.out BK115.out (by decide)) (fun _ hk => hk.2) (.int .i64 a0_0)) (fun _ hk => hk.2) (.slice Ao5 l0_1.length co5)) (fun _ hk => hk.1), by repeat (first | (with_reducible first | exact HB.out | apply Yf | apply Yg | apply Yh | refine Yi ?_ GE114.out | refine Yi ?_ GE115.out) | exact HB.out), by repeat (first | (with_reducible first | exact HK.out | apply Kept.alloc | apply Kept.drewN | apply Kept.drew | refine Kept.setCell ?_ (.inr GW114.out) _ | refine Kept.setCell ?_ (.inr GW115.out) _) | exact HK.out)⟩
        ·replace c18 := Bool.eq_false_iff.mpr c18
         subst c18
         have H1 : ((spec_l7Find.f kj15 a0_0 l0_1 x1_3 x2_3).bind fun t116 => (if t116 ≥ 0 then (some (a0_0, l0_1, wrap64 (2 * t116))) else (if (l0_1.length : Int) ≥ 600 then (some (a0_0, l0_1, (-1))) else (if l0_1.length < 8796093022208 then ((some (l0_1 ++ [(⟨x1_3, x2_3⟩ : S57)] : List (S57))).bind fun y117 => ((spec_l7Nodes.f a0_0 y117).bind fun t120 => (some (a0_0, y117, wrap64 (2 * (wrap64 (t120 - 1))))))) else (none))))) = some (r1, r2, r3) := by rw [if_neg (show ¬ (false = true) by decide)] at H; exact H
         clear H
         have H := H1
         clear H1
         replace H := Option.bind_eq_some_iff.mp H
         obtain ⟨t116, A220, H⟩ := H
         replace H : (if t116 ≥ 0 then (some (a0_0, l0_1, wrap64 (2 * t116))) else (if (l0_1.length : Int) ≥ 600 then (some (a0_0, l0_1, (-1))) else (if l0_1.length < 8796093022208 then ((some (l0_1 ++ [(⟨x1_3, x2_3⟩ : S57)] : List (S57))).bind fun y117 => ((spec_l7Nodes.f a0_0 y117).bind fun t120 => (some (a0_0, y117, wrap64 (2 * (wrap64 (t120 - 1))))))) else (none)))) = some (r1, r2, r3) := H
         have A22 := Yj A220
         clear A220
         by_cases c23 : t116 ≥ 0
         ·rw [if_pos c23] at H
          have c23b0 : decide (0 ≤ t116) = true := decide_eq_true c23
          clear c23
          simp only [Option.some.injEq, Prod.mk.injEq] at H
          obtain ⟨rfl, rfl, rfl⟩ := H
          have hnb24 := NB114_115.out
          have hnc24 := NB115_114.out
          have hcz25_0 : wc.cell? ⟨gb114, 0, none⟩ = some (.int .i64 a0_0) := (Yd BK114.out 0).trans rfl
          have hcz25_1 : wc.cell? ⟨gb114, 1, none⟩ = some (.slice Ao5 l0_1.length co5) := (Yd BK114.out 1).trans rfl
          have hfz25_0 := Ye BK114.out 0
          have hfz25_1 := Ye BK114.out 1
          go_wp2_with (first | ((with_reducible refine gate_callee (f := 39) rfl ?_); refine goesL_ (some 43) rfl rfl Try.func39 (by kernel_rfl) rfl #[.agg #[.int .i64 a0_0, .slice Ao5 l0_1.length co5], .int .i64 x1_3, .int .i64 x2_3] rfl (by (try simp only [List.map_toArray, List.map_cons, List.map_nil]); first | done | rfl | (simp only [List.length_drop, List.length_take]; rfl)) ?_; (with_reducible refine (spec_l7Find.calls kj15 a0_0 _ _ l0_1 x1_3 x2_3 t116 _ ?side1 ?side2 A22.out).mono ?_); (case side1 => repeat (first | exact (Kd.R_reads' HO_115001.out).2.2 | (with_reducible refine Kd.C_alloc ?_ _) | (with_reducible refine Kd.C_drewN ?_ _) | (with_reducible refine Kd.C_drew ?_))); (case side2 => exact (Kd.R_reads' HO_115001.out).2.1); rintro e w26 ⟨rfl, hb⟩; refine ⟨_, rfl, ?_⟩; have n0_ := Yj (Kd.R_below (by (with_reducible repeat (first | apply Yl | apply Yk | apply Kd.R_drew)); exact HO_115001.out) hb); have n1_ := Yj (blk_below (g := gb114) (o := .cells #[.int .i64 a0_0, .slice Ao5 l0_1.length co5] 28 (0, 0)) (by (with_reducible repeat (first | refine Ya ?_ _ | refine Yb ?_ | refine Yc ?_ _)); exact BK114.out) hb); have n2_ := Yj (blk_below (g := gb115) (o := .cells #[.int .i64 0, .slice none 0 0] 28 (0, 0)) (by (with_reducible repeat (first | refine Ya ?_ _ | refine Yb ?_ | refine Yc ?_ _)); exact BK115.out) hb); have n3_ := Yj (Kept.below (S := (fun k_ => P0_1_ k_)) (by repeat (first | (with_reducible first | exact HK.out | apply Kept.alloc | apply Kept.drewN | apply Kept.drew | refine Kept.setCell ?_ (.inr GW114.out) _ | refine Kept.setCell ?_ (.inr GW115.out) _) | exact HK.out)) hb); have n4_ := Yj (below_step (by repeat (first | (with_reducible first | exact HB.out | apply Yf | apply Yg | apply Yh | refine Yi ?_ GE114.out | refine Yi ?_ GE115.out) | exact HB.out)) hb); clear HO_115001; clear BK114; clear BK115; clear HK; clear HB; have HO_115001 := n0_; have BK114 := n1_; have BK115 := n2_; have HK := n3_; have HB := n4_; clear n0_ n1_ n2_ n3_ n4_; (try clear hb); (try clear hb2); (try clear hk); (try clear hi); have hcz27_0 : w26.cell? ⟨gb114, 0, none⟩ = some (.int .i64 a0_0) := (Yd BK114.out 0).trans rfl; have hcz27_1 : w26.cell? ⟨gb114, 1, none⟩ = some (.slice Ao5 l0_1.length co5) := (Yd BK114.out 1).trans rfl; have hfz27_0 := Ye BK114.out 0; have hfz27_1 := Ye BK114.out 1; have hcz28_0 : w26.cell? ⟨gb115, 0, none⟩ = some (.int .i64 0) := (Yd BK115.out 0).trans rfl; have hcz28_1 : w26.cell? ⟨gb115, 1, none⟩ = some (.slice none 0 0) := (Yd BK115.out 1).trans rfl; have hfz28_0 := Ye BK115.out 0; have hfz28_1 := Ye BK115.out 1))
          refine bodyPost_ret (results_ct rfl _ _ gb115 28 #[.int .i64 a0_0, .slice Ao5 l0_1.length co5] (0, 0) _ rfl (by (with_reducible repeat (first | refine Ya ?_ _ | refine Yb ?_ | refine Yc ?_ _)); refine blk_put (cs := #[.int .i64 a0_0, .slice none 0 0]) ?_ 1 _ rfl; (with_reducible repeat (first | refine Ya ?_ _ | refine Yb ?_ | refine Yc ?_ _)); refine blk_put (cs := #[.int .i64 0, .slice none 0 0]) ?_ 0 _ rfl; (with_reducible repeat (first | refine Ya ?_ _ | refine Yb ?_ | refine Yc ?_ _)); exact BK115.out) Try.underlying28 rfl (by kernel_rfl)) rfl ?_
          exact ⟨_, by first | rfl | (simp [errW_none, errW_some] <;> rfl) | (simp [*, errW_none, errW_some] <;> rfl), by (with_reducible repeat (first | apply Yl | apply Yk | apply Kd.R_drew)); exact Kd.R_mono (Kd.R_far (p := ⟨gb115, 1, none⟩) (Kd.R_far (p := ⟨gb115, 0, none⟩) (Kd.R_types HO_115001.out BK115.out (by decide)) (fun _ hk => hk.2) (.int .i64 a0_0)) (fun _ hk => hk.2) (.slice Ao5 l0_1.length co5)) (fun _ hk => hk.1), by repeat (first | (with_reducible first | exact HB.out | apply Yf | apply Yg | apply Yh | refine Yi ?_ GE114.out | refine Yi ?_ GE115.out) | exact HB.out), by repeat (first | (with_reducible first | exact HK.out | apply Kept.alloc | apply Kept.drewN | apply Kept.drew | refine Kept.setCell ?_ (.inr GW114.out) _ | refine Kept.setCell ?_ (.inr GW115.out) _) | exact HK.out)⟩
         ·rw [if_neg c23] at H
          have c23b0 : decide (0 ≤ t116) = false := decide_eq_false c23
          clear c23
          by_cases c29 : (l0_1.length : Int) ≥ 600
          ·rw [if_pos c29] at H
           have c29b0 : decide (600 ≤ (l0_1.length : Int)) = true := decide_eq_true c29
           have c29b1 : decide (600 ≤ l0_1.length) = true := decide_eq_true (by omega)
           clear c29
           simp only [Option.some.injEq, Prod.mk.injEq] at H
           obtain ⟨rfl, rfl, rfl⟩ := H
           have hnb30 := NB114_115.out
           have hnc30 := NB115_114.out
           have hcz31_0 : wc.cell? ⟨gb114, 0, none⟩ = some (.int .i64 a0_0) := (Yd BK114.out 0).trans rfl
           have hcz31_1 : wc.cell? ⟨gb114, 1, none⟩ = some (.slice Ao5 l0_1.length co5) := (Yd BK114.out 1).trans rfl
           have hfz31_0 := Ye BK114.out 0
           have hfz31_1 := Ye BK114.out 1
           go_wp2_with (first | ((with_reducible refine gate_callee (f := 39) rfl ?_); refine goesL_ (some 43) rfl rfl Try.func39 (by kernel_rfl) rfl #[.agg #[.int .i64 a0_0, .slice Ao5 l0_1.length co5], .int .i64 x1_3, .int .i64 x2_3] rfl (by (try simp only [List.map_toArray, List.map_cons, List.map_nil]); first | done | rfl | (simp only [List.length_drop, List.length_take]; rfl)) ?_; (with_reducible refine (spec_l7Find.calls kj15 a0_0 _ _ l0_1 x1_3 x2_3 t116 _ ?side1 ?side2 A22.out).mono ?_); (case side1 => repeat (first | exact (Kd.R_reads' HO_115001.out).2.2 | (with_reducible refine Kd.C_alloc ?_ _) | (with_reducible refine Kd.C_drewN ?_ _) | (with_reducible refine Kd.C_drew ?_))); (case side2 => exact (Kd.R_reads' HO_115001.out).2.1); rintro e w32 ⟨rfl, hb⟩; refine ⟨_, rfl, ?_⟩; have n0_ := Yj (Kd.R_below (by (with_reducible repeat (first | apply Yl | apply Yk | apply Kd.R_drew)); exact HO_115001.out) hb); have n1_ := Yj (blk_below (g := gb114) (o := .cells #[.int .i64 a0_0, .slice Ao5 l0_1.length co5] 28 (0, 0)) (by (with_reducible repeat (first | refine Ya ?_ _ | refine Yb ?_ | refine Yc ?_ _)); exact BK114.out) hb); have n2_ := Yj (blk_below (g := gb115) (o := .cells #[.int .i64 0, .slice none 0 0] 28 (0, 0)) (by (with_reducible repeat (first | refine Ya ?_ _ | refine Yb ?_ | refine Yc ?_ _)); exact BK115.out) hb); have n3_ := Yj (Kept.below (S := (fun k_ => P0_1_ k_)) (by repeat (first | (with_reducible first | exact HK.out | apply Kept.alloc | apply Kept.drewN | apply Kept.drew | refine Kept.setCell ?_ (.inr GW114.out) _ | refine Kept.setCell ?_ (.inr GW115.out) _) | exact HK.out)) hb); have n4_ := Yj (below_step (by repeat (first | (with_reducible first | exact HB.out | apply Yf | apply Yg | apply Yh | refine Yi ?_ GE114.out | refine Yi ?_ GE115.out) | exact HB.out)) hb); clear HO_115001; clear BK114; clear BK115; clear HK; clear HB; have HO_115001 := n0_; have BK114 := n1_; have BK115 := n2_; have HK := n3_; have HB := n4_; clear n0_ n1_ n2_ n3_ n4_; (try clear hb); (try clear hb2); (try clear hk); (try clear hi); have hcz33_0 : w32.cell? ⟨gb114, 0, none⟩ = some (.int .i64 a0_0) := (Yd BK114.out 0).trans rfl; have hcz33_1 : w32.cell? ⟨gb114, 1, none⟩ = some (.slice Ao5 l0_1.length co5) := (Yd BK114.out 1).trans rfl; have hfz33_0 := Ye BK114.out 0; have hfz33_1 := Ye BK114.out 1; have hcz34_0 : w32.cell? ⟨gb115, 0, none⟩ = some (.int .i64 0) := (Yd BK115.out 0).trans rfl; have hcz34_1 : w32.cell? ⟨gb115, 1, none⟩ = some (.slice none 0 0) := (Yd BK115.out 1).trans rfl; have hfz34_0 := Ye BK115.out 0; have hfz34_1 := Ye BK115.out 1))
           refine bodyPost_ret (results_ct rfl _ _ gb115 28 #[.int .i64 a0_0, .slice Ao5 l0_1.length co5] (0, 0) _ rfl (by (with_reducible repeat (first | refine Ya ?_ _ | refine Yb ?_ | refine Yc ?_ _)); refine blk_put (cs := #[.int .i64 a0_0, .slice none 0 0]) ?_ 1 _ rfl; (with_reducible repeat (first | refine Ya ?_ _ | refine Yb ?_ | refine Yc ?_ _)); refine blk_put (cs := #[.int .i64 0, .slice none 0 0]) ?_ 0 _ rfl; (with_reducible repeat (first | refine Ya ?_ _ | refine Yb ?_ | refine Yc ?_ _)); exact BK115.out) Try.underlying28 rfl (by kernel_rfl)) rfl ?_
           exact ⟨_, by first | rfl | (simp [errW_none, errW_some] <;> rfl) | (simp [*, errW_none, errW_some] <;> rfl), by (with_reducible repeat (first | apply Yl | apply Yk | apply Kd.R_drew)); exact Kd.R_mono (Kd.R_far (p := ⟨gb115, 1, none⟩) (Kd.R_far (p := ⟨gb115, 0, none⟩) (Kd.R_types HO_115001.out BK115.out (by decide)) (fun _ hk => hk.2) (.int .i64 a0_0)) (fun _ hk => hk.2) (.slice Ao5 l0_1.length co5)) (fun _ hk => hk.1), by repeat (first | (with_reducible first | exact HB.out | apply Yf | apply Yg | apply Yh | refine Yi ?_ GE114.out | refine Yi ?_ GE115.out) | exact HB.out), by repeat (first | (with_reducible first | exact HK.out | apply Kept.alloc | apply Kept.drewN | apply Kept.drew | refine Kept.setCell ?_ (.inr GW114.out) _ | refine Kept.setCell ?_ (.inr GW115.out) _) | exact HK.out)⟩
          ·rw [if_neg c29] at H
           have c29b0 : decide (600 ≤ (l0_1.length : Int)) = false := decide_eq_false c29
           have c29b1 : decide (600 ≤ l0_1.length) = false := decide_eq_false (by omega)
           clear c29
           by_cases c35 : l0_1.length < 8796093022208
           ·rw [if_pos c35] at H
            have LMc35 := Yj c35
            clear c35
            obtain ⟨y117, hy117⟩ : ∃ y_ : List (S57), y_ = (l0_1 ++ [(⟨x1_3, x2_3⟩ : S57)]) := ⟨_, rfl⟩
            replace H : ((spec_l7Nodes.f a0_0 y117).bind fun t120 => (some (a0_0, y117, wrap64 (2 * (wrap64 (t120 - 1)))))) = some (r1, r2, r3) := by first | (rw [hy117]; with_reducible exact H) | (have H2_ := (Option.bind_some _ _).symm.trans H; rw [hy117]; with_reducible exact H2_) | (have H2_ := (Option.bind_some _ _).symm.trans H; with_reducible exact H2_) | with_reducible exact H | (rw [hy117]; exact H) | exact H
            have Ny117 := Yj hy117
            clear hy117
            replace H := Option.bind_eq_some_iff.mp H
            obtain ⟨t120, A360, H⟩ := H
            replace H : (some (a0_0, y117, wrap64 (2 * (wrap64 (t120 - 1))))) = some (r1, r2, r3) := H
            have A36 := Yj A360
            clear A360
            simp only [Option.some.injEq, Prod.mk.injEq] at H
            obtain ⟨rfl, rfl, rfl⟩ := H
            have hnb37 := NB114_115.out
            have hnc37 := NB115_114.out
            have hcz38_0 : wc.cell? ⟨gb114, 0, none⟩ = some (.int .i64 a0_0) := (Yd BK114.out 0).trans rfl
            have hcz38_1 : wc.cell? ⟨gb114, 1, none⟩ = some (.slice Ao5 l0_1.length co5) := (Yd BK114.out 1).trans rfl
            have hfz38_0 := Ye BK114.out 0
            have hfz38_1 := Ye BK114.out 1
            try go_wp2_with (first | ((with_reducible refine gate_callee (f := 39) rfl ?_); refine goesL_ (some 43) rfl rfl Try.func39 (by kernel_rfl) rfl #[.agg #[.int .i64 a0_0, .slice Ao5 l0_1.length co5], .int .i64 x1_3, .int .i64 x2_3] rfl (by (try simp only [List.map_toArray, List.map_cons, List.map_nil]); first | done | rfl | (simp only [List.length_drop, List.length_take]; rfl)) ?_; (with_reducible refine (spec_l7Find.calls kj15 a0_0 _ _ l0_1 x1_3 x2_3 t116 _ ?side1 ?side2 A22.out).mono ?_); (case side1 => repeat (first | exact (Kd.R_reads' HO_115001.out).2.2 | (with_reducible refine Kd.C_alloc ?_ _) | (with_reducible refine Kd.C_drewN ?_ _) | (with_reducible refine Kd.C_drew ?_))); (case side2 => exact (Kd.R_reads' HO_115001.out).2.1); rintro e w39 ⟨rfl, hb⟩; refine ⟨_, rfl, ?_⟩; have n0_ := Yj (Kd.R_below (by (with_reducible repeat (first | apply Yl | apply Yk | apply Kd.R_drew)); exact HO_115001.out) hb); have n1_ := Yj (blk_below (g := gb114) (o := .cells #[.int .i64 a0_0, .slice Ao5 l0_1.length co5] 28 (0, 0)) (by (with_reducible repeat (first | refine Ya ?_ _ | refine Yb ?_ | refine Yc ?_ _)); exact BK114.out) hb); have n2_ := Yj (blk_below (g := gb115) (o := .cells #[.int .i64 0, .slice none 0 0] 28 (0, 0)) (by (with_reducible repeat (first | refine Ya ?_ _ | refine Yb ?_ | refine Yc ?_ _)); exact BK115.out) hb); have n3_ := Yj (Kept.below (S := (fun k_ => P0_1_ k_)) (by repeat (first | (with_reducible first | exact HK.out | apply Kept.alloc | apply Kept.drewN | apply Kept.drew | refine Kept.setCell ?_ (.inr GW114.out) _ | refine Kept.setCell ?_ (.inr GW115.out) _) | exact HK.out)) hb); have n4_ := Yj (below_step (by repeat (first | (with_reducible first | exact HB.out | apply Yf | apply Yg | apply Yh | refine Yi ?_ GE114.out | refine Yi ?_ GE115.out) | exact HB.out)) hb); clear HO_115001; clear BK114; clear BK115; clear HK; clear HB; have HO_115001 := n0_; have BK114 := n1_; have BK115 := n2_; have HK := n3_; have HB := n4_; clear n0_ n1_ n2_ n3_ n4_; (try clear hb); (try clear hb2); (try clear hk); (try clear hi); have hcz40_0 : w39.cell? ⟨gb114, 0, none⟩ = some (.int .i64 a0_0) := (Yd BK114.out 0).trans rfl; have hcz40_1 : w39.cell? ⟨gb114, 1, none⟩ = some (.slice Ao5 l0_1.length co5) := (Yd BK114.out 1).trans rfl; have hfz40_0 := Ye BK114.out 0; have hfz40_1 := Ye BK114.out 1) | ((with_reducible refine gate_builtin (b := .append) (xs := #[.tmp 55, .tmp 59]) rfl ?_); at_builtin; refine Kd.R_append k57 (w0 := w0) w0.heap.size rfl (.tmp 55) (.tmp 59) 26 57 (.agg #[(.int .i64 0), (.int .i64 0)]) 16 rfl Try.underlying26 info57 rfl (by decide) (by omega) (.slice Ao5 l0_1.length co5) l0_1 (⟨x1_3, x2_3⟩ : S57) [.int .i64 x1_3, .int .i64 x2_3] (fun k_ => (P0_1_ k_ ∨ w.heap.size ≤ k_)) (fun _ => False) rfl rfl ?aP (fun _ hk => hk.elim) ?aF ?aO ?aB ?aS ?aL ?_; (case aP => exact k57_mkM _ _ _ (⟨x1_3, x2_3⟩ : S57)); (case aB => exact (by repeat (first | (with_reducible first | exact HB.out | apply Yf | apply Yg | apply Yh | refine Yi ?_ GE114.out | refine Yi ?_ GE115.out) | exact HB.out))); (case aF => exact (fun k_ hk => (.inr (Nat.le_trans (by first | exact HK.out.1 | exact (show Kept w _ (fun k_ => P0_1_ k_) from by repeat (first | (with_reducible first | exact HK.out | apply Kept.alloc | apply Kept.drewN | apply Kept.drew | refine Kept.setCell ?_ (.inr GW114.out) _ | refine Kept.setCell ?_ (.inr GW115.out) _) | exact HK.out)).1) hk)))); (case aO => exact (by (with_reducible repeat (first | apply Yl | apply Yk | apply Kd.R_drew)); exact HO_115001.out)); (case aS => exact (below_size (by repeat (first | (with_reducible first | exact HB.out | apply Yf | apply Yg | apply Yh | refine Yi ?_ GE114.out | refine Yi ?_ GE115.out) | exact HB.out)))); (case aL => have := LMc35.out; omega); intro v118 w41 ho hb hg hat; rw [← Ny117.out] at ho; have n0_ := Yj (blk_grown (g := gb114) (o := .cells #[.int .i64 a0_0, .slice Ao5 l0_1.length co5] 28 (0, 0)) (by (with_reducible repeat (first | refine Ya ?_ _ | refine Yb ?_ | refine Yc ?_ _)); exact BK114.out) hg (Kd.R_ne HO_115001.out BK114.out (by decide))); have n1_ := Yj (blk_grown (g := gb115) (o := .cells #[.int .i64 0, .slice none 0 0] 28 (0, 0)) (by (with_reducible repeat (first | refine Ya ?_ _ | refine Yb ?_ | refine Yc ?_ _)); exact BK115.out) hg (Kd.R_ne HO_115001.out BK115.out (by decide))); have n2_ := Yj (hb); have n3_ := Yj (Kept.of_grown (S := (fun k_ => P0_1_ k_)) hg (by repeat (first | (with_reducible first | exact HK.out | apply Kept.alloc | apply Kept.drewN | apply Kept.drew | refine Kept.setCell ?_ (.inr GW114.out) _ | refine Kept.setCell ?_ (.inr GW115.out) _) | exact HK.out)) (fun k_ e_ => (HO_115001.out.1 k_ e_))); have n4_ := Yj (ho); clear BK114; clear BK115; clear HB; clear HK; clear HO_115001; have BK114 := n0_; have BK115 := n1_; have HB := n2_; have HK := n3_; have HO119 := n4_; clear n0_ n1_ n2_ n3_ n4_; clear ho hb hg hat; obtain ⟨Ao42, co42, eo42⟩ := Kd.R_slice HO119.out; subst eo42; have hcz43_0 : w41.cell? ⟨gb114, 0, none⟩ = some (.int .i64 a0_0) := (Yd BK114.out 0).trans rfl; have hcz43_1 : w41.cell? ⟨gb114, 1, none⟩ = some (.slice Ao5 l0_1.length co5) := (Yd BK114.out 1).trans rfl; have hfz43_0 := Ye BK114.out 0; have hfz43_1 := Ye BK114.out 1))
            have n0_ : Aside0 (Kd.R k57 57 (w41.setCell ⟨gb114, 1, none⟩ (.slice Ao42 y117.length co42)) w0.heap.size (fun k_ => (P0_1_ k_ ∨ w.heap.size ≤ k_)) (.slice Ao42 y117.length co42) y117) := ⟨by (with_reducible repeat (first | apply Yl | apply Yk | apply Kd.R_drew)); exact Kd.R_mono (Kd.R_far (p := ⟨gb114, 1, none⟩) (Kd.R_types HO119.out BK114.out (by decide)) (fun _ hk => hk.2) (.slice Ao42 y117.length co42)) (fun _ hk => hk.1)⟩
            have n1_ : Aside0 ((w41.setCell ⟨gb114, 1, none⟩ (.slice Ao42 y117.length co42)).heap[gb114]? = some (.cells #[.int .i64 a0_0, .slice Ao42 y117.length co42] 28 (0, 0))) := ⟨by (with_reducible repeat (first | refine Ya ?_ _ | refine Yb ?_ | refine Yc ?_ _)); refine blk_put (cs := #[.int .i64 a0_0, .slice Ao5 l0_1.length co5]) ?_ 1 _ rfl; (with_reducible repeat (first | refine Ya ?_ _ | refine Yb ?_ | refine Yc ?_ _)); exact BK114.out⟩
            have n2_ : Aside0 ((w41.setCell ⟨gb114, 1, none⟩ (.slice Ao42 y117.length co42)).heap[gb115]? = some (.cells #[.int .i64 0, .slice none 0 0] 28 (0, 0))) := ⟨by (with_reducible repeat (first | refine Ya ?_ _ | refine Yb ?_ | refine Yc ?_ _)); refine blk_far ?_ NB115_114.out _; (with_reducible repeat (first | refine Ya ?_ _ | refine Yb ?_ | refine Yc ?_ _)); exact BK115.out⟩
            have n3_ : Aside0 (Kept w (w41.setCell ⟨gb114, 1, none⟩ (.slice Ao42 y117.length co42)) (fun k_ => P0_1_ k_)) := ⟨by repeat (first | (with_reducible first | exact HK.out | apply Kept.alloc | apply Kept.drewN | apply Kept.drew | refine Kept.setCell ?_ (.inr GW114.out) _ | refine Kept.setCell ?_ (.inr GW115.out) _) | exact HK.out)⟩
            have n4_ : Aside0 (Below w0.heap.size w0 (w41.setCell ⟨gb114, 1, none⟩ (.slice Ao42 y117.length co42))) := ⟨by repeat (first | (with_reducible first | exact HB.out | apply Yf | apply Yg | apply Yh | refine Yi ?_ GE114.out | refine Yi ?_ GE115.out) | exact HB.out)⟩
            (try clear HO119)
            (try clear BK114)
            (try clear BK115)
            (try clear HK)
            (try clear HB)
            generalize (w41.setCell ⟨gb114, 1, none⟩ (.slice Ao42 y117.length co42)) = w44 at n0_ n1_ n2_ n3_ n4_ ⊢
            have HO119 := n0_
            have BK114 := n1_
            have BK115 := n2_
            have HK := n3_
            have HB := n4_
            clear n0_ n1_ n2_ n3_ n4_
            have n0_ := Yj (Kd.R_drew HO119.out)
            have n1_ := Yj (Yb BK114.out)
            have n2_ := Yj (Yb BK115.out)
            have n3_ := Yj (Kept.drew HK.out)
            have n4_ := Yj (Yh HB.out)
            clear HO119
            clear BK114
            clear BK115
            clear HK
            clear HB
            have HO119 := n0_
            have BK114 := n1_
            have BK115 := n2_
            have HK := n3_
            have HB := n4_
            clear n0_ n1_ n2_ n3_ n4_
            refine start_ (n := 7) (S := fun w' => w'.cell? ⟨gb114, 0, none⟩ = some (.int .i64 a0_0) ∧ w'.cell? ⟨gb114, 1, none⟩ = some (.slice Ao42 y117.length co42)) (ds := []) #[false, false, false, false, false, false, false] (by kernel_rfl) rfl rfl ⟨(Yd BK114.out 0).trans rfl, (Yd BK114.out 1).trans rfl⟩ (fun hHeld => ?_)
            generalize w44.drew = w45 at HO119 BK114 BK115 HK HB hHeld ⊢
            refine take_ (i := 0) (N := some 62) (v := ?_) (a' := ?_) #[true, false, false, false, false, false, false] rfl rfl (by kernel_rfl) (fun _ _ _ h => h) (Or.inl ⟨by rfl, ?_⟩) hHeld ?_ ?_
            rotate_left
            ·rintro w' ⟨s0, s1⟩
             go_simp
             with_reducible rfl
            rotate_left
            ·simp only [Act.put, List.setIfInBounds_toArray, List.set_cons_zero, List.set_cons_succ, i64_w, i32_w]
             rfl
            refine take_ (i := 1) (N := some 63) (v := ?_) (a' := ?_) #[true, true, false, false, false, false, false] rfl rfl (by kernel_rfl) (fun _ _ _ h => h) (Or.inl ⟨by rfl, ?_⟩) hHeld ?_ ?_
            rotate_left
            ·rintro w' ⟨s0, s1⟩
             go_simp
             with_reducible rfl
            rotate_left
            ·simp only [Act.put, List.setIfInBounds_toArray, List.set_cons_zero, List.set_cons_succ, i64_w, i32_w]
             rfl
            refine one_ (i := 2) (N := some 64) #[true, true, true, false, false, false, false] rfl rfl (by kernel_rfl) (by decide) (fun K hK => ?_)
            refine goes_ Try.func38 (by kernel_rfl) rfl #[.agg #[.int .i64 a0_0, .slice Ao42 y117.length co42]] (by rfl) rfl rfl (by (try simp only [List.map_toArray, List.map_cons, List.map_nil]); first | done | rfl | (simp only [List.length_drop, List.length_take]; rfl)) ?_
            with_reducible refine (spec_l7Nodes.calls a0_0 _ _ y117 t120 _ ?side1 ?side2 A36.out).mono ?_
            (case side1 => repeat (first | exact (Kd.R_reads' HO119.out).2.2 | (with_reducible refine Kd.C_alloc ?_ _) | (with_reducible refine Kd.C_drewN ?_ _) | (with_reducible refine Kd.C_drew ?_)))
            (case side2 => exact (Kd.R_reads' HO119.out).2.1)
            rintro e w46 ⟨rfl, hb⟩
            refine ⟨_, rfl, ?_⟩
            have n0_ := Yj (Kd.R_below (by (with_reducible repeat (first | apply Yl | apply Yk | apply Kd.R_drew)); exact HO119.out) hb)
            have n1_ := Yj (blk_below (g := gb114) (o := .cells #[.int .i64 a0_0, .slice Ao42 y117.length co42] 28 (0, 0)) (by (with_reducible repeat (first | refine Ya ?_ _ | refine Yb ?_ | refine Yc ?_ _)); exact BK114.out) hb)
            have n2_ := Yj (blk_below (g := gb115) (o := .cells #[.int .i64 0, .slice none 0 0] 28 (0, 0)) (by (with_reducible repeat (first | refine Ya ?_ _ | refine Yb ?_ | refine Yc ?_ _)); exact BK115.out) hb)
            have n3_ := Yj (Kept.below (S := (fun k_ => P0_1_ k_)) (by repeat (first | (with_reducible first | exact HK.out | apply Kept.alloc | apply Kept.drewN | apply Kept.drew | refine Kept.setCell ?_ (.inr GW114.out) _ | refine Kept.setCell ?_ (.inr GW115.out) _) | exact HK.out)) hb)
            have n4_ := Yj (below_step (by repeat (first | (with_reducible first | exact HB.out | apply Yf | apply Yg | apply Yh | refine Yi ?_ GE114.out | refine Yi ?_ GE115.out) | exact HB.out)) hb)
            clear HO119
            clear BK114
            clear BK115
            clear HK
            clear HB
            have HO119 := n0_
            have BK114 := n1_
            have BK115 := n2_
            have HK := n3_
            have HB := n4_
            clear n0_ n1_ n2_ n3_ n4_
            (try clear hb)
            (try clear hb2)
            (try clear hk)
            (try clear hi)
            refine hK.out _ _ ⟨(Yd BK114.out 0).trans rfl, (Yd BK114.out 1).trans rfl⟩ (fun hHeld => ?_)
            clear hK K
            refine norm_ (a' := ?_) ?_ ?_
            rotate_left
            ·show Act.put _ (some 64) _ = _
             simp only [Act.put, List.setIfInBounds_toArray, List.set_cons_zero, List.set_cons_succ, i64_w, i32_w]
             rfl
            refine pure_ (i := 3) (N := some 65) (v := ?_) (a' := ?_) #[true, true, true, true, false, false, false] rfl rfl (by kernel_rfl) (fun _ _ _ h => h) (Or.inl ⟨by rfl, ?_⟩) ?_ ?_
            rotate_left
            ·intro w'
             go_simp
             with_reducible rfl
            rotate_left
            ·simp only [Act.put, List.setIfInBounds_toArray, List.set_cons_zero, List.set_cons_succ, i64_w, i32_w]
             rfl
            refine pure_ (i := 4) (N := some 66) (v := ?_) (a' := ?_) #[true, true, true, true, true, false, false] rfl rfl (by kernel_rfl) (fun _ _ _ h => h) (Or.inl ⟨by rfl, ?_⟩) ?_ ?_
            rotate_left
            ·intro w'
             go_simp
             with_reducible rfl
            rotate_left
            ·simp only [Act.put, List.setIfInBounds_toArray, List.set_cons_zero, List.set_cons_succ, i64_w, i32_w]
             rfl
            refine one_ (i := 5) (N := none) #[true, true, true, true, true, true, false] rfl rfl (by kernel_rfl) (by decide) (fun K hK => ?_)
            have hs47 : w46.cell? ⟨gb115, 0, none⟩ = some (.int .i64 0) := (Yd BK115.out 0).trans rfl
            have hfs47 := Ye BK115.out 0
            have hns47_0 := NB114_115.out
            have hms47_0 := NB115_114.out
            have hs48 : w46.cell? ⟨gb115, 1, none⟩ = some (.slice none 0 0) := (Yd BK115.out 1).trans rfl
            have hfs48 := Ye BK115.out 1
            have hns48_0 := NB114_115.out
            have hms48_0 := NB115_114.out
            refine skip_ (w1 := ?_) (by rfl) rfl ?_ ?_
            rotate_left
            ·go_simp
             rfl
            refine hK.out _ _ ⟨((cell_far (p := ⟨gb115, _, none⟩) NB114_115.out _).trans (((cell_far (p := ⟨gb115, _, none⟩) NB114_115.out _).trans (hHeld.1)))), ((cell_far (p := ⟨gb115, _, none⟩) NB114_115.out _).trans (((cell_far (p := ⟨gb115, _, none⟩) NB114_115.out _).trans (hHeld.2))))⟩ (fun hHeld => ?_)
            clear hK K
            refine pure_ (i := 6) (N := some 7) (v := ?_) (a' := ?_) #[true, true, true, true, true, true, true] rfl rfl (by kernel_rfl) (fun _ _ _ h => h) (Or.inl ⟨by rfl, ?_⟩) ?_ ?_
            rotate_left
            ·intro w'
             go_simp
             with_reducible rfl
            rotate_left
            ·simp only [Act.put, List.setIfInBounds_toArray, List.set_cons_zero, List.set_cons_succ, i64_w, i32_w]
             rfl
            refine done_ (by kernel_rfl) ?_
            try go_wp2
            refine bodyPost_ret (results_ct rfl _ _ gb115 28 #[.int .i64 a0_0, .slice Ao42 y117.length co42] (0, 0) _ rfl (by (with_reducible repeat (first | refine Ya ?_ _ | refine Yb ?_ | refine Yc ?_ _)); refine blk_put (cs := #[.int .i64 a0_0, .slice none 0 0]) ?_ 1 _ rfl; (with_reducible repeat (first | refine Ya ?_ _ | refine Yb ?_ | refine Yc ?_ _)); refine blk_put (cs := #[.int .i64 0, .slice none 0 0]) ?_ 0 _ rfl; (with_reducible repeat (first | refine Ya ?_ _ | refine Yb ?_ | refine Yc ?_ _)); exact BK115.out) Try.underlying28 rfl (by kernel_rfl)) rfl ?_
            exact ⟨_, by first | rfl | (simp [errW_none, errW_some] <;> rfl) | (simp [*, errW_none, errW_some] <;> rfl), by (with_reducible repeat (first | apply Yl | apply Yk | apply Kd.R_drew)); exact Kd.R_mono (Kd.R_far (p := ⟨gb115, 1, none⟩) (Kd.R_far (p := ⟨gb115, 0, none⟩) (Kd.R_types HO119.out BK115.out (by decide)) (fun _ hk => hk.2) (.int .i64 a0_0)) (fun _ hk => hk.2) (.slice Ao42 y117.length co42)) (fun _ hk => hk.1), by repeat (first | (with_reducible first | exact HB.out | apply Yf | apply Yg | apply Yh | refine Yi ?_ GE114.out | refine Yi ?_ GE115.out) | exact HB.out), by repeat (first | (with_reducible first | exact HK.out | apply Kept.alloc | apply Kept.drewN | apply Kept.drew | refine Kept.setCell ?_ (.inr GW114.out) _ | refine Kept.setCell ?_ (.inr GW115.out) _) | exact HK.out)⟩
           ·rw [if_neg c35] at H
            exact absurd H (by simp)

/-! ### spec_l7Copy: function 20 -/
def spec_l7Copy.l0 : Nat → Int → Int → List (S57) → Int → List (S57) → Option (Int × (List (S57)))
 | 0, _, _, _, _, _ => none
 | k + 1, x4, x122000, x122001, x124000, x124001 => if x4 < (x122001.length : Int) then (if 0 ≤ x4 then (if x124001.length < 8796093022208 then (spec_l7Copy.l0 k (wrap64 (x4 + 1)) x122000 x122001 x124000 (x124001 ++ [(⟨(rd_T57 x122001 x4).f0, (rd_T57 x122001 x4).f1⟩ : S57)])) else (none)) else (none)) else (some (x124000, x124001))
def spec_l7Copy.f (k : Nat) (a0_0 : Int) (l0_1 : List (S57)) : Option (Int × (List (S57))) := spec_l7Copy.l0 k 0 a0_0 l0_1 a0_0 ([] : List (S57))
theorem spec_l7Copy.mono_l : ∀ k, (∀ y0 y1 y2 y3 y4, LeO (spec_l7Copy.l0 k y0 y1 y2 y3 y4) (spec_l7Copy.l0 (k + 1) y0 y1 y2 y3 y4))
 | 0 => fun _ _ _ _ _ r h => by simp [spec_l7Copy.l0] at h
 | k + 1 => by
  have ih0 := spec_l7Copy.mono_l k
  ·intro y0 y1 y2 y3 y4
   unfold spec_l7Copy.l0
   repeat' first
   | (with_reducible exact ih0 _ _ _ _ _)
   | (with_reducible exact LeO.refl _)
   | (with_reducible exact LeO.none _)
   | (with_reducible refine LeO.ite ?_ ?_)
   | (with_reducible refine LeO.bind ?_ (fun _ => ?_))
   | exact ih0 _ _ _ _ _
   | exact LeO.none _
   | refine LeO.ite ?_ ?_
   | refine LeO.bind ?_ (fun _ => ?_)
theorem spec_l7Copy.mono : ∀ a0 a1 k, LeO (spec_l7Copy.f k a0 a1) (spec_l7Copy.f (k + 1) a0 a1) := by
 intro a0 a1 k
 have ih0 := spec_l7Copy.mono_l k
 unfold spec_l7Copy.f
 repeat' first
   | (with_reducible exact ih0 _ _ _ _ _)
   | (with_reducible exact LeO.refl _)
   | (with_reducible exact LeO.none _)
   | (with_reducible refine LeO.ite ?_ ?_)
   | (with_reducible refine LeO.bind ?_ (fun _ => ?_))
   | exact ih0 _ _ _ _ _
   | exact LeO.none _
   | refine LeO.ite ?_ ?_
   | refine LeO.bind ?_ (fun _ => ?_)
def spec_l7Copy.T5 : Bool × List (List Nat × List Nat) := (true, [([], []), ([0], [0]), ([], []), ([2], [2]), ([], []), ([3, 4], [3, 4]), ([5], [5]), ([6], [6]), ([1, 7], [1, 7]), ([0, 1, 2, 3, 4, 5, 6, 7, 8], []), ([9, 8, 8, 0, 1, 2, 3, 4, 5, 6, 7, 8], [8, 9])])
def spec_l7Copy.B5 : List Nat := [0, 1, 0, 4, 0, 28, 60, 124, 255, 511, 1023]
theorem spec_l7Copy.tab5 : rtab .any (opsOf Try.f20 5) = spec_l7Copy.T5 := by kernel_rfl
theorem spec_l7Copy.bits5 : waitsOk spec_l7Copy.T5.2 spec_l7Copy.B5 = true := by kernel_rfl
set_option maxHeartbeats 8000000 in
set_option maxRecDepth 100000 in
theorem spec_l7Copy.calls (k : Nat) (a0_0 : Int) (A0_1 : Option Addr) (c0_1 : Nat) (l0_1 : List (S57)) (r1 : Int) (r2 : List (S57)) (w : World) (hr0_1 : Kd.C k57 w A0_1 l0_1.length l0_1) (hc0_1 : l0_1.length ≤ c0_1) (h : spec_l7Copy.f k a0_0 l0_1 = some (r1, r2)) :
  Calls Try.prog 20 #[.agg #[.int .i64 a0_0, .slice A0_1 l0_1.length c0_1]] w fun e w' => ∃ v1_ : Value, e = .returned (.agg #[.int .i64 r1, v1_]) ∧ Kd.R k57 57 w' w.heap.size (fun _ => True) v1_ r2 ∧ Below w.heap.size w w' := by
 have hu28 := Try.underlying28
 have hu57 := Try.underlying57
 have HR0_1 := Yj hr0_1
 have HC0_1 := Yj hc0_1
 clear hr0_1 hc0_1
 have HB := Yj (Below.refl w.heap.size w)
 have H : (spec_l7Copy.l0 k 0 a0_0 l0_1 a0_0 ([] : List (S57))) = some (r1, r2) := h
 clear h
 have H' := Yj H
 clear H
 go_enter Try.func20, Try.ntmps20
 go_wp2_with (first | ((with_reducible refine gate_dst (N := 1) rfl ?_); refine box_event ?hg (N := 1) ?hd (cs := #[.int .i64 a0_0, .slice A0_1 l0_1.length c0_1]) (t := 28) ?hr ?_; (case hd => rfl); (case hg => rfl); (case hr => first | (go_simp; done) | (go_simp; rfl)); intro gb121 hg w2 hbox hb; have n0_ := Yj (below_step (by repeat (first | (with_reducible first | exact HB.out | apply Yf | apply Yg | apply Yh) | exact HB.out)) hb); have n1_ := Yj (hbox); have n2_ := Yj ((by rw [hg]; exact (below_size (by repeat (first | (with_reducible first | exact HB.out | apply Yf | apply Yg | apply Yh) | exact HB.out))) : w.heap.size ≤ gb121)); have n3_ := Yj ((by rw [hg]; exact (below_size (by repeat (first | (with_reducible first | exact HB.out | apply Yf | apply Yg | apply Yh) | exact HB.out))) : w.heap.size ≤ gb121)); clear HB; have HB := n0_; have BK121 := n1_; have GW121 := n2_; have GE121 := n3_; clear n0_ n1_ n2_ n3_; clear hb hbox hg) | ((with_reducible refine gate_dst (N := 2) rfl ?_); refine box_event ?hg (N := 2) ?hd (cs := #[.int .i64 0, .slice none 0 0]) (t := 28) ?hr ?_; (case hd => rfl); (case hg => rfl); (case hr => first | (go_simp; done) | (go_simp; rfl)); intro gb122 hg w3 hbox hb; have n0_ := Yj (blk_below (g := gb121) (o := .cells #[.int .i64 a0_0, .slice A0_1 l0_1.length c0_1] 28 (0, 0)) (by (with_reducible repeat (first | refine Ya ?_ _ | refine Yb ?_ | refine Yc ?_ _)); exact BK121.out) hb); have n1_ := Yj (below_step (by repeat (first | (with_reducible first | exact HB.out | apply Yf | apply Yg | apply Yh | refine Yi ?_ GE121.out) | exact HB.out)) hb); have n2_ := Yj (hbox); have n3_ := Yj ((by rw [hg]; exact (below_size (by repeat (first | (with_reducible first | exact HB.out | apply Yf | apply Yg | apply Yh | refine Yi ?_ GE121.out) | exact HB.out))) : w.heap.size ≤ gb122)); have n4_ := Yj ((by rw [hg]; exact (below_size (by repeat (first | (with_reducible first | exact HB.out | apply Yf | apply Yg | apply Yh | refine Yi ?_ GE121.out) | exact HB.out))) : w.heap.size ≤ gb122)); have n5_ := Yj ((by rw [hg]; exact Nat.ne_of_lt (blk_lt (g := gb121) (o := .cells #[.int .i64 a0_0, .slice A0_1 l0_1.length c0_1] 28 (0, 0)) (by (with_reducible repeat (first | refine Ya ?_ _ | refine Yb ?_ | refine Yc ?_ _)); exact BK121.out)) : gb121 ≠ gb122)); have n6_ := Yj ((by rw [hg]; exact Nat.ne_of_gt (blk_lt (g := gb121) (o := .cells #[.int .i64 a0_0, .slice A0_1 l0_1.length c0_1] 28 (0, 0)) (by (with_reducible repeat (first | refine Ya ?_ _ | refine Yb ?_ | refine Yc ?_ _)); exact BK121.out)) : gb122 ≠ gb121)); clear BK121; clear HB; have BK121 := n0_; have HB := n1_; have BK122 := n2_; have GW122 := n3_; have GE122 := n4_; have NB121_122 := n5_; have NB122_121 := n6_; clear n0_ n1_ n2_ n3_ n4_ n5_ n6_; clear hb hbox hg; have hnb4 := NB121_122.out; have hnc4 := NB122_121.out; have hcz5_0 : w3.cell? ⟨gb121, 0, none⟩ = some (.int .i64 a0_0) := (Yd BK121.out 0).trans rfl; have hcz5_1 : w3.cell? ⟨gb121, 1, none⟩ = some (.slice A0_1 l0_1.length c0_1) := (Yd BK121.out 1).trans rfl; have hfz5_0 := Ye BK121.out 0; have hfz5_1 := Ye BK121.out 1) | ((with_reducible refine gate_dst (N := 3) rfl ?_); refine box_event ?hg (N := 3) ?hd (cs := #[.int .i64 0, .slice none 0 0]) (t := 28) ?hr ?_; (case hd => rfl); (case hg => rfl); (case hr => first | (go_simp; done) | (go_simp; rfl)); intro gb123 hg w6 hbox hb; have n0_ := Yj (blk_below (g := gb121) (o := .cells #[.int .i64 a0_0, .slice A0_1 l0_1.length c0_1] 28 (0, 0)) (by (with_reducible repeat (first | refine Ya ?_ _ | refine Yb ?_ | refine Yc ?_ _)); exact BK121.out) hb); have n1_ := Yj (blk_below (g := gb122) (o := .cells #[.int .i64 0, .slice none 0 0] 28 (0, 0)) (by (with_reducible repeat (first | refine Ya ?_ _ | refine Yb ?_ | refine Yc ?_ _)); exact BK122.out) hb); have n2_ := Yj (below_step (by repeat (first | (with_reducible first | exact HB.out | apply Yf | apply Yg | apply Yh | refine Yi ?_ GE121.out | refine Yi ?_ GE122.out) | exact HB.out)) hb); have n3_ := Yj (hbox); have n4_ := Yj ((by rw [hg]; exact (below_size (by repeat (first | (with_reducible first | exact HB.out | apply Yf | apply Yg | apply Yh | refine Yi ?_ GE121.out | refine Yi ?_ GE122.out) | exact HB.out))) : w.heap.size ≤ gb123)); have n5_ := Yj ((by rw [hg]; exact (below_size (by repeat (first | (with_reducible first | exact HB.out | apply Yf | apply Yg | apply Yh | refine Yi ?_ GE121.out | refine Yi ?_ GE122.out) | exact HB.out))) : w.heap.size ≤ gb123)); have n6_ := Yj ((by rw [hg]; exact Nat.ne_of_lt (blk_lt (g := gb121) (o := .cells #[.int .i64 a0_0, .slice A0_1 l0_1.length c0_1] 28 (0, 0)) (by (with_reducible repeat (first | refine Ya ?_ _ | refine Yb ?_ | refine Yc ?_ _)); exact BK121.out)) : gb121 ≠ gb123)); have n7_ := Yj ((by rw [hg]; exact Nat.ne_of_gt (blk_lt (g := gb121) (o := .cells #[.int .i64 a0_0, .slice A0_1 l0_1.length c0_1] 28 (0, 0)) (by (with_reducible repeat (first | refine Ya ?_ _ | refine Yb ?_ | refine Yc ?_ _)); exact BK121.out)) : gb123 ≠ gb121)); have n8_ := Yj ((by rw [hg]; exact Nat.ne_of_lt (blk_lt (g := gb122) (o := .cells #[.int .i64 0, .slice none 0 0] 28 (0, 0)) (by (with_reducible repeat (first | refine Ya ?_ _ | refine Yb ?_ | refine Yc ?_ _)); exact BK122.out)) : gb122 ≠ gb123)); have n9_ := Yj ((by rw [hg]; exact Nat.ne_of_gt (blk_lt (g := gb122) (o := .cells #[.int .i64 0, .slice none 0 0] 28 (0, 0)) (by (with_reducible repeat (first | refine Ya ?_ _ | refine Yb ?_ | refine Yc ?_ _)); exact BK122.out)) : gb123 ≠ gb122)); clear BK121; clear BK122; clear HB; have BK121 := n0_; have BK122 := n1_; have HB := n2_; have BK123 := n3_; have GW123 := n4_; have GE123 := n5_; have NB121_123 := n6_; have NB123_121 := n7_; have NB122_123 := n8_; have NB123_122 := n9_; clear n0_ n1_ n2_ n3_ n4_ n5_ n6_ n7_ n8_ n9_; clear hb hbox hg; have hnb7 := NB123_121.out; have hnc7 := NB121_123.out; have hnb8 := NB123_122.out; have hnc8 := NB122_123.out; have hcz9_0 : w6.cell? ⟨gb123, 0, none⟩ = some (.int .i64 0) := (Yd BK123.out 0).trans rfl; have hcz9_1 : w6.cell? ⟨gb123, 1, none⟩ = some (.slice none 0 0) := (Yd BK123.out 1).trans rfl; have hfz9_0 := Ye BK123.out 0; have hfz9_1 := Ye BK123.out 1))
 go_loopg [4] k (fun kq v4 w' => ∃ (x4_1 : Int) (x124001_1 : List (S57)) (u124001 : Value), v4 = .int .i64 x4_1 ∧ Aside0 (spec_l7Copy.l0 kq x4_1 a0_0 l0_1 a0_0 x124001_1 = some (r1, r2)) ∧ Aside0 (kq ≤ k) ∧ Aside0 (Kd.R k57 57 w' w.heap.size (fun _ => True) u124001 x124001_1) ∧ Aside0 (w'.heap[gb121]? = some (.cells #[.int .i64 a0_0, (.slice A0_1 l0_1.length c0_1)] 28 (0, 0))) ∧ Aside0 (w'.heap[gb122]? = some (.cells #[.int .i64 0, (.slice none 0 0)] 28 (0, 0))) ∧ Aside0 (w'.heap[gb123]? = some (.cells #[.int .i64 a0_0, u124001] 28 (0, 0))) ∧ Aside0 (Below w.heap.size w w'))
 case atStart => exact ⟨(0), (([] : List (S57))), (.slice none 0 0), (by first | rfl | (simp; done) | (simp [*]; done)), H', ⟨Nat.le_refl _⟩, ⟨by first | exact Kd.R_nil _ _ _ _ _ | exact Kd.N_nil _ _ _ _ _ | exact Kd.V_nil _ _ _ _ _ | exact Kd.Q_nil _ _ _ _ _ | exact Kd.S_nil _ _ _ _ _⟩, ⟨by (with_reducible repeat (first | refine Ya ?_ _ | refine Yb ?_ | refine Yc ?_ _)); refine blk_far ?_ NB121_123.out _; (with_reducible repeat (first | refine Ya ?_ _ | refine Yb ?_ | refine Yc ?_ _)); refine blk_far ?_ NB121_123.out _; (with_reducible repeat (first | refine Ya ?_ _ | refine Yb ?_ | refine Yc ?_ _)); exact BK121.out⟩, ⟨by (with_reducible repeat (first | refine Ya ?_ _ | refine Yb ?_ | refine Yc ?_ _)); refine blk_far ?_ NB122_123.out _; (with_reducible repeat (first | refine Ya ?_ _ | refine Yb ?_ | refine Yc ?_ _)); refine blk_far ?_ NB122_123.out _; (with_reducible repeat (first | refine Ya ?_ _ | refine Yb ?_ | refine Yc ?_ _)); exact BK122.out⟩, ⟨by (with_reducible repeat (first | refine Ya ?_ _ | refine Yb ?_ | refine Yc ?_ _)); refine blk_put (cs := #[.int .i64 a0_0, .slice none 0 0]) ?_ 1 _ rfl; (with_reducible repeat (first | refine Ya ?_ _ | refine Yb ?_ | refine Yc ?_ _)); refine blk_put (cs := #[.int .i64 0, .slice none 0 0]) ?_ 0 _ rfl; (with_reducible repeat (first | refine Ya ?_ _ | refine Yb ?_ | refine Yc ?_ _)); exact BK123.out⟩, ⟨by repeat (first | (with_reducible first | exact HB.out | apply Yf | apply Yg | apply Yh | refine Yi ?_ GE121.out | refine Yi ?_ GE122.out | refine Yi ?_ GE123.out) | exact HB.out)⟩⟩
 case round =>
  clear H'
  try clear c2
  try clear p2
  try clear c4
  try clear c7
  try clear c8
  try clear hcz5_0
  try clear hcz5_1
  try clear hcz9_0
  try clear hcz9_1
  try clear hfz5_0
  try clear hfz5_1
  try clear hfz9_0
  try clear hfz9_1
  obtain ⟨x4_1, x124001_1, u124001, rfl, HA, HK1, HO_124001, BK121, BK122, BK123, HB⟩ := hrel
  cases gk with
  | zero => exact absurd HA.out (by simp [spec_l7Copy.l0])
  | succ k1 =>
   have H := HA.out
   clear HA
   simp only [spec_l7Copy.l0] at H
   by_cases c10 : x4_1 < (l0_1.length : Int)
   ·rw [if_pos c10] at H
    have c10b0 : decide (x4_1 < (l0_1.length : Int)) = true := decide_eq_true c10
    clear c10
    by_cases c11 : 0 ≤ x4_1
    ·rw [if_pos c11] at H
     have c11b0 : decide (0 ≤ x4_1) = true := decide_eq_true c11
     clear c11
     by_cases c12 : x124001_1.length < 8796093022208
     ·rw [if_pos c12] at H
      have LMc12 := Yj c12
      clear c12
      obtain ⟨y125, hy125⟩ : ∃ y_ : List (S57), y_ = (x124001_1 ++ [(⟨(rd_T57 l0_1 x4_1).f0, (rd_T57 l0_1 x4_1).f1⟩ : S57)]) := ⟨_, rfl⟩
      replace H : (spec_l7Copy.l0 k1 (wrap64 (x4_1 + 1)) a0_0 l0_1 a0_0 y125) = some (r1, r2) := by first | (rw [hy125]; with_reducible exact H) | (have H2_ := (Option.bind_some _ _).symm.trans H; rw [hy125]; with_reducible exact H2_) | (have H2_ := (Option.bind_some _ _).symm.trans H; with_reducible exact H2_) | with_reducible exact H | (rw [hy125]; exact H) | exact H
      have Ny125 := Yj hy125
      clear hy125
      have H' := Yj H
      clear H
      have hnb13 := NB121_122.out
      have hnc13 := NB122_121.out
      have hnb14 := NB121_123.out
      have hnc14 := NB123_121.out
      have hcz15_0 : wr.cell? ⟨gb121, 0, none⟩ = some (.int .i64 a0_0) := (Yd BK121.out 0).trans rfl
      have hcz15_1 : wr.cell? ⟨gb121, 1, none⟩ = some (.slice A0_1 l0_1.length c0_1) := (Yd BK121.out 1).trans rfl
      have hfz15_0 := Ye BK121.out 0
      have hfz15_1 := Ye BK121.out 1
      try go_wp2
      have n0_ := Yj (Kd.R_drew HO_124001.out)
      have n1_ := Yj (Yb BK121.out)
      have n2_ := Yj (Yb BK122.out)
      have n3_ := Yj (Yb BK123.out)
      have n4_ := Yj (Yh HB.out)
      clear HO_124001
      clear BK121
      clear BK122
      clear BK123
      clear HB
      have HO_124001 := n0_
      have BK121 := n1_
      have BK122 := n2_
      have BK123 := n3_
      have HB := n4_
      clear n0_ n1_ n2_ n3_ n4_
      have p124 : 0 ≤ (x4_1 : Int) := of_decide_eq_true (by first | (with_reducible assumption) | assumption)
      have q124 : x4_1 < (l0_1.length : Int) := of_decide_eq_true (by first | (with_reducible assumption) | assumption)
      obtain ⟨ad124, e124, hx124_0, hx124_1⟩ := at_T57 HR0_1.out x4_1 p124 q124
      have hw124_1 := hx124_1
      have hw124_0 := hx124_0
      cases e124
      replace hx124_0 := (HB.out.cell (World.block_lt_of_cell? w _ hx124_0)).trans hx124_0
      replace hx124_1 := (HB.out.cell (World.block_lt_of_cell? w _ hx124_1)).trans hx124_1
      replace p124 := eq_true p124
      replace q124 := eq_true q124
      refine start_ (n := 11) (S := fun w' => w'.cell? ⟨gb123, 0, none⟩ = some (.int .i64 a0_0) ∧ w'.cell? ⟨gb123, 1, none⟩ = some (u124001) ∧ w'.cell? ⟨gb121, 0, none⟩ = some (.int .i64 a0_0) ∧ w'.cell? ⟨gb121, 1, none⟩ = some (.slice (some ad124) l0_1.length c0_1) ∧ w'.cell? (ad124.add ((x4_1).toNat * 2)) = some (.int .i64 ((rd_T57 l0_1 x4_1).f0)) ∧ w'.cell? ⟨(ad124.add ((x4_1).toNat * 2)).block, (ad124.add ((x4_1).toNat * 2)).off + 1, none⟩ = some (.int .i64 ((rd_T57 l0_1 x4_1).f1))) (ds := [10]) #[false, false, false, false, false, false, false, false, false, false, false] (by kernel_rfl) rfl rfl ⟨(Yd BK123.out 0).trans rfl, (Yd BK123.out 1).trans rfl, (Yd BK121.out 0).trans rfl, (Yd BK121.out 1).trans rfl, ((HB.out.cell (World.block_lt_of_cell? w _ hw124_0)).trans hw124_0), ((HB.out.cell (World.block_lt_of_cell? w _ hw124_1)).trans hw124_1)⟩ (fun hHeld => ?_); refine with_tabW spec_l7Copy.tab5 spec_l7Copy.bits5 (fun HT_ HW_ => ?_)
      generalize wr.drew = w16 at HO_124001 BK121 BK122 BK123 HB hx124_0 hx124_1 hHeld ⊢
      refine pure_ (i := 0) (N := some 15) (v := ?_) (a' := ?_) #[true, false, false, false, false, false, false, false, false, false, false] rfl rfl (any_of HT_.out (by kernel_rfl)) (fun _ _ _ h => h) (Or.inl ⟨by rfl, ?_⟩) ?_ ?_
      rotate_left
      ·intro w'
       go_simp
       with_reducible rfl
      rotate_left
      ·simp only [Act.put, List.setIfInBounds_toArray, List.set_cons_zero, List.set_cons_succ, i64_w, i32_w]
       rfl
      refine pure_ (i := 2) (N := some 17) (v := ?_) (a' := ?_) #[true, false, true, false, false, false, false, false, false, false, false] rfl rfl (any_of HT_.out (by kernel_rfl)) (fun _ _ _ h => h) (Or.inl ⟨by rfl, ?_⟩) ?_ ?_
      rotate_left
      ·intro w'
       go_simp
       with_reducible rfl
      rotate_left
      ·simp only [Act.put, List.setIfInBounds_toArray, List.set_cons_zero, List.set_cons_succ, i64_w, i32_w]
       rfl
      refine pure_ (i := 4) (N := some 19) (v := ?_) (a' := ?_) #[true, false, true, false, true, false, false, false, false, false, false] rfl rfl (any_of HT_.out (by kernel_rfl)) (fun _ _ _ h => h) (Or.inl ⟨by rfl, ?_⟩) ?_ ?_
      rotate_left
      ·intro w'
       go_simp
       with_reducible rfl
      rotate_left
      ·simp only [Act.put, List.setIfInBounds_toArray, List.set_cons_zero, List.set_cons_succ, i64_w, i32_w]
       rfl
      refine take_ (i := 1) (N := some 16) (v := ?_) (a' := ?_) #[true, true, true, false, true, false, false, false, false, false, false] rfl rfl (take_ofW HT_.out HW_.out (by kernel_rfl)) (fun _ _ _ h => h) (Or.inl ⟨by rfl, ?_⟩) hHeld ?_ ?_
      rotate_left
      ·rintro w' ⟨s0, s1, s2, s3, s4, s5⟩
       go_simp
       with_reducible rfl
      rotate_left
      ·simp only [Act.put, List.setIfInBounds_toArray, List.set_cons_zero, List.set_cons_succ, i64_w, i32_w]
       rfl
      refine take_ (i := 3) (N := some 18) (v := ?_) (a' := ?_) #[true, true, true, true, true, false, false, false, false, false, false] rfl rfl (take_ofW HT_.out HW_.out (by kernel_rfl)) (fun _ _ _ h => h) (Or.inl ⟨by rfl, ?_⟩) hHeld ?_ ?_
      rotate_left
      ·rintro w' ⟨s0, s1, s2, s3, s4, s5⟩
       go_simp
       with_reducible rfl
      rotate_left
      ·simp only [Act.put, List.setIfInBounds_toArray, List.set_cons_zero, List.set_cons_succ, i64_w, i32_w]
       rfl
      refine pure_ (i := 5) (N := some 20) (v := ?_) (a' := ?_) #[true, true, true, true, true, true, false, false, false, false, false] rfl rfl (any_of HT_.out (by kernel_rfl)) (fun _ _ _ h => h) (Or.inl ⟨by rfl, ?_⟩) ?_ ?_
      rotate_left
      ·intro w'
       go_simp
       with_reducible rfl
      rotate_left
      ·simp only [Act.put, List.setIfInBounds_toArray, List.set_cons_zero, List.set_cons_succ, i64_w, i32_w]
       rfl
      refine take_ (i := 6) (N := some 21) (v := ?_) (a' := ?_) #[true, true, true, true, true, true, true, false, false, false, false] rfl rfl (take_ofW HT_.out HW_.out (by kernel_rfl)) (fun _ _ _ h => h) (Or.inl ⟨by rfl, ?_⟩) hHeld ?_ ?_
      rotate_left
      ·rintro w' ⟨s0, s1, s2, s3, s4, s5⟩
       go_simp
       with_reducible rfl
      rotate_left
      ·simp only [Act.put, List.setIfInBounds_toArray, List.set_cons_zero, List.set_cons_succ, i64_w, i32_w]
       rfl
      refine one_ (i := 7) (N := some 22) #[true, true, true, true, true, true, true, true, false, false, false] rfl rfl (one_of HT_.out (by kernel_rfl)) (by decide) (fun K hK => ?_)
      refine value_ (w1 := ?_) (v := ?_) (by rfl) rfl ?_ ?_
      rotate_left 2
      ·go_simp
       constructor
       ·rfl
       ·rfl
      refine hK.out _ _ ⟨(Yd (Yc BK123.out _) 0).trans rfl, (Yd (Yc BK123.out _) 1).trans rfl, (Yd (Yc BK121.out _) 0).trans rfl, (Yd (Yc BK121.out _) 1).trans rfl, (World.cell?_alloc_lt _ _ _ (World.block_lt_of_cell? _ _ (((HB.out.cell (World.block_lt_of_cell? w _ hw124_0)).trans hw124_0)))).trans (((HB.out.cell (World.block_lt_of_cell? w _ hw124_0)).trans hw124_0)), (World.cell?_alloc_lt _ _ _ (World.block_lt_of_cell? _ _ (((HB.out.cell (World.block_lt_of_cell? w _ hw124_1)).trans hw124_1)))).trans (((HB.out.cell (World.block_lt_of_cell? w _ hw124_1)).trans hw124_1))⟩ (fun hHeld => ?_)
      clear hK K
      refine norm_ (a' := ?_) ?_ ?_
      rotate_left
      ·show Act.put _ (some 22) _ = _
       simp only [Act.put, List.setIfInBounds_toArray, List.set_cons_zero, List.set_cons_succ, i64_w, i32_w]
       rfl
      refine one_ (i := 8) (N := some 23) #[true, true, true, true, true, true, true, true, true, false, false] rfl rfl (one_of HT_.out (by kernel_rfl)) (by decide) (fun K hK => ?_)
      refine Kd.R_append_step k57 (w0 := w) w.heap.size (by rfl) (.tmp 16) (.tmp 22) 26 57 (.agg #[(.int .i64 0), (.int .i64 0)]) 16 rfl Try.underlying26 info57 rfl (by decide) (by omega) u124001 x124001_1 (⟨(rd_T57 l0_1 x4_1).f0, (rd_T57 l0_1 x4_1).f1⟩ : S57) [.int .i64 ((rd_T57 l0_1 x4_1).f0), .int .i64 ((rd_T57 l0_1 x4_1).f1)] (fun _ => True) (fun _ => False) rfl rfl ?aP (fun _ hk => hk.elim) ?aF ?aO ?aB ?aS ?aL ?_
      (case aP => exact k57_mkM _ _ _ (⟨(rd_T57 l0_1 x4_1).f0, (rd_T57 l0_1 x4_1).f1⟩ : S57))
      (case aB => exact (by repeat (first | (with_reducible first | exact HB.out | apply Yf | apply Yg | apply Yh | refine Yi ?_ GE121.out | refine Yi ?_ GE122.out | refine Yi ?_ GE123.out) | exact HB.out)))
      (case aF => exact (fun _ _ => trivial))
      (case aO => exact (by (with_reducible repeat (first | apply Yl | apply Yk | apply Kd.R_drew)); exact HO_124001.out))
      (case aS => exact (below_size (by repeat (first | (with_reducible first | exact HB.out | apply Yf | apply Yg | apply Yh | refine Yi ?_ GE121.out | refine Yi ?_ GE122.out | refine Yi ?_ GE123.out) | exact HB.out))))
      (case aL => have := LMc12.out; omega)
      intro v126 w17 ho hb hg hat
      rw [← Ny125.out] at ho
      have n0_ := Yj (blk_grown (g := gb121) (o := .cells #[.int .i64 a0_0, .slice (some ad124) l0_1.length c0_1] 28 (0, 0)) (by (with_reducible repeat (first | refine Ya ?_ _ | refine Yb ?_ | refine Yc ?_ _)); exact BK121.out) hg (Kd.R_ne HO_124001.out BK121.out (by decide)))
      have n1_ := Yj (blk_grown (g := gb122) (o := .cells #[.int .i64 0, .slice none 0 0] 28 (0, 0)) (by (with_reducible repeat (first | refine Ya ?_ _ | refine Yb ?_ | refine Yc ?_ _)); exact BK122.out) hg (Kd.R_ne HO_124001.out BK122.out (by decide)))
      have n2_ := Yj (blk_grown (g := gb123) (o := .cells #[.int .i64 a0_0, u124001] 28 (0, 0)) (by (with_reducible repeat (first | refine Ya ?_ _ | refine Yb ?_ | refine Yc ?_ _)); exact BK123.out) hg (Kd.R_ne HO_124001.out BK123.out (by decide)))
      have n3_ := Yj (hb)
      have n4_ := Yj (ho)
      clear BK121
      clear BK122
      clear BK123
      clear HB
      clear HO_124001
      have BK121 := n0_
      have BK122 := n1_
      have BK123 := n2_
      have HB := n3_
      have HO127 := n4_
      clear n0_ n1_ n2_ n3_ n4_
      clear ho hb hg hat
      obtain ⟨Ao18, co18, eo18⟩ := Kd.R_slice HO127.out
      (first | subst eo18 | (injection eo18 with f1_ f2_ f3_; have f4_ := f1_.symm; have f5_ := f3_.symm; clear f1_ f2_ f3_; subst f4_; subst f5_))
      refine hK.out _ _ ⟨(Yd BK123.out 0).trans rfl, (Yd BK123.out 1).trans rfl, (Yd BK121.out 0).trans rfl, (Yd BK121.out 1).trans rfl, ((HB.out.cell (World.block_lt_of_cell? w _ hw124_0)).trans hw124_0), ((HB.out.cell (World.block_lt_of_cell? w _ hw124_1)).trans hw124_1)⟩ (fun hHeld => ?_)
      clear hK K
      refine norm_ (a' := ?_) ?_ ?_
      rotate_left
      ·show Act.put _ (some 23) _ = _
       simp only [Act.put, List.setIfInBounds_toArray, List.set_cons_zero, List.set_cons_succ, i64_w, i32_w]
       rfl
      refine pure_ (i := 9) (N := some 24) (v := ?_) (a' := ?_) #[true, true, true, true, true, true, true, true, true, true, false] rfl rfl (any_of HT_.out (by kernel_rfl)) (fun _ _ _ h => h) (Or.inl ⟨by rfl, ?_⟩) ?_ ?_
      rotate_left
      ·intro w'
       go_simp
       with_reducible rfl
      rotate_left
      ·simp only [Act.put, List.setIfInBounds_toArray, List.set_cons_zero, List.set_cons_succ, i64_w, i32_w]
       rfl
      refine last_ (i := 10) (N := none) #[true, true, true, true, true, true, true, true, true, true, true] rfl rfl (one_of HT_.out (by kernel_rfl)) (by decide) (fun K hK => ?_)
      have hs19 : w17.cell? ⟨gb123, 1, none⟩ = some (u124001) := (Yd BK123.out 1).trans rfl
      have hfs19 := Ye BK123.out 1
      have hns19_0 := NB121_123.out
      have hns19_1 := NB122_123.out
      have hms19_0 := NB123_121.out
      have hms19_1 := NB123_122.out
      refine skip_ (w1 := ?_) (by rfl) rfl ?_ ?_
      rotate_left
      ·go_simp
       rfl
      refine hK.out _ _ ?_
      clear hK K
      refine done_ (done_of HT_.out (by kernel_rfl)) ?_
      try go_wp2
      go_roundg k1
      case measure => have := HK1.out; omega
      case rel => exact ⟨(wrap64 (x4_1 + 1)), (y125), (.slice Ao18 y125.length co18), (by first | rfl | (simp; done) | (simp [*]; done)), H', ⟨by have := HK1.out; omega⟩, ⟨by (with_reducible repeat (first | apply Yl | apply Yk | apply Kd.R_drew)); exact Kd.R_mono (Kd.R_far (p := ⟨gb123, 1, none⟩) (Kd.R_types HO127.out BK123.out (by decide)) (fun _ hk => hk.2) (.slice Ao18 y125.length co18)) (fun _ hk => trivial)⟩, ⟨by (with_reducible repeat (first | refine Ya ?_ _ | refine Yb ?_ | refine Yc ?_ _)); refine blk_far ?_ NB121_123.out _; (with_reducible repeat (first | refine Ya ?_ _ | refine Yb ?_ | refine Yc ?_ _)); exact BK121.out⟩, ⟨by (with_reducible repeat (first | refine Ya ?_ _ | refine Yb ?_ | refine Yc ?_ _)); refine blk_far ?_ NB122_123.out _; (with_reducible repeat (first | refine Ya ?_ _ | refine Yb ?_ | refine Yc ?_ _)); exact BK122.out⟩, ⟨by (with_reducible repeat (first | refine Ya ?_ _ | refine Yb ?_ | refine Yc ?_ _)); refine blk_put (cs := #[.int .i64 a0_0, u124001]) ?_ 1 _ rfl; (with_reducible repeat (first | refine Ya ?_ _ | refine Yb ?_ | refine Yc ?_ _)); exact BK123.out⟩, ⟨by repeat (first | (with_reducible first | exact HB.out | apply Yf | apply Yg | apply Yh | refine Yi ?_ GE121.out | refine Yi ?_ GE122.out | refine Yi ?_ GE123.out) | exact HB.out)⟩⟩
     ·rw [if_neg c12] at H
      exact absurd H (by simp)
    ·rw [if_neg c11] at H
     exact absurd H (by simp)
   ·rw [if_neg c10] at H
    have c10b0 : decide (x4_1 < (l0_1.length : Int)) = false := decide_eq_false c10
    clear c10
    simp only [Option.some.injEq, Prod.mk.injEq] at H
    obtain ⟨rfl, rfl⟩ := H
    have hnb20 := NB121_122.out
    have hnc20 := NB122_121.out
    have hnb21 := NB121_123.out
    have hnc21 := NB123_121.out
    have hcz22_0 : wr.cell? ⟨gb121, 0, none⟩ = some (.int .i64 a0_0) := (Yd BK121.out 0).trans rfl
    have hcz22_1 : wr.cell? ⟨gb121, 1, none⟩ = some (.slice A0_1 l0_1.length c0_1) := (Yd BK121.out 1).trans rfl
    have hfz22_0 := Ye BK121.out 0
    have hfz22_1 := Ye BK121.out 1
    have hnb23 := NB123_122.out
    have hnc23 := NB122_123.out
    have hcz24_0 : wr.cell? ⟨gb123, 0, none⟩ = some (.int .i64 a0_0) := (Yd BK123.out 0).trans rfl
    have hcz24_1 : wr.cell? ⟨gb123, 1, none⟩ = some (u124001) := (Yd BK123.out 1).trans rfl
    have hfz24_0 := Ye BK123.out 0
    have hfz24_1 := Ye BK123.out 1
    have hcz25_0 : wr.cell? ⟨gb122, 0, none⟩ = some (.int .i64 0) := (Yd BK122.out 0).trans rfl
    have hcz25_1 : wr.cell? ⟨gb122, 1, none⟩ = some (.slice none 0 0) := (Yd BK122.out 1).trans rfl
    have hfz25_0 := Ye BK122.out 0
    have hfz25_1 := Ye BK122.out 1
    obtain ⟨Ao26, co26, eo26⟩ := Kd.R_slice HO_124001.out
    subst eo26
    go_wp2
    refine bodyPost_ret (results_cell_row rfl _ _ gb122 28 #[.int .i64 a0_0, .slice Ao26 x124001_1.length co26] (0, 0) _ rfl (by (with_reducible repeat (first | refine Ya ?_ _ | refine Yb ?_ | refine Yc ?_ _)); refine blk_put (cs := #[.int .i64 a0_0, .slice none 0 0]) ?_ 1 _ rfl; (with_reducible repeat (first | refine Ya ?_ _ | refine Yb ?_ | refine Yc ?_ _)); refine blk_put (cs := #[.int .i64 0, .slice none 0 0]) ?_ 0 _ rfl; (with_reducible repeat (first | refine Ya ?_ _ | refine Yb ?_ | refine Yc ?_ _)); exact BK122.out) Try.underlying28 rfl (by kernel_rfl)) rfl ?_
    exact ⟨_, by first | rfl | (simp [errW_none, errW_some] <;> rfl) | (simp [*, errW_none, errW_some] <;> rfl), by (with_reducible repeat (first | apply Yl | apply Yk | apply Kd.R_drew)); exact Kd.R_mono (Kd.R_far (p := ⟨gb122, 1, none⟩) (Kd.R_far (p := ⟨gb122, 0, none⟩) (Kd.R_types HO_124001.out BK122.out (by decide)) (fun _ hk => hk.2) (.int .i64 a0_0)) (fun _ hk => hk.2) (.slice Ao26 x124001_1.length co26)) (fun _ hk => trivial), by repeat (first | (with_reducible first | exact HB.out | apply Yf | apply Yg | apply Yh | refine Yi ?_ GE121.out | refine Yi ?_ GE122.out | refine Yi ?_ GE123.out) | exact HB.out)⟩

/-! ### spec_l7Told: function 21 -/
def spec_l7Told.f (a0_0 : Int) (l0_1 : List (S57)) (a1 : Int) : Option (Int × (List (S57)) × Int) := if a1 < 0 then (some (0, ([] : List (S57)), (-1))) else (some (a0_0, l0_1, a1))
set_option maxHeartbeats 8000000 in
set_option maxRecDepth 100000 in
theorem spec_l7Told.calls (a0_0 : Int) (P0_1_ : Nat → Prop) (u9000_ : Value) (l0_1 : List (S57)) (a1 : Int) (r1 : Int) (r2 : List (S57)) (r3 : Int) (w0 w : World) (hB : Below w0.heap.size w0 w) (ho0_1 : Kd.R k57 57 w w0.heap.size P0_1_ u9000_ l0_1) (h : spec_l7Told.f a0_0 l0_1 a1 = some (r1, r2, r3)) :
  Calls Try.prog 21 #[.agg #[.int .i64 a0_0, u9000_], .int .i64 a1] w fun e w' => ∃ v1_ : Value, e = .returned (.tuple #[.agg #[.int .i64 r1, v1_], .int .i64 r3]) ∧ Kd.R k57 57 w' w0.heap.size (fun k_ => (P0_1_ k_ ∨ w.heap.size ≤ k_)) v1_ r2 ∧ Below w0.heap.size w0 w' ∧ Kept w w' (fun k_ => P0_1_ k_) := by
 have hu28 := Try.underlying28
 have HO0_1 := Yj (show Kd.R k57 57 w w0.heap.size (fun k_ => (P0_1_ k_ ∨ w.heap.size ≤ k_)) u9000_ l0_1 from Kd.R_mono ho0_1 (fun k_ hk => (.inl hk)))
 have HK := Yj (Kept.refl w (fun k_ => P0_1_ k_))
 have HW0 := Yj hB.size
 have HB := Yj hB
 clear hB
 have H : (if a1 < 0 then (some (0, ([] : List (S57)), (-1))) else (some (a0_0, l0_1, a1))) = some (r1, r2, r3) := h
 clear h
 by_cases c3 : a1 < 0
 ·rw [if_pos c3] at H
  have c3b0 : decide (a1 < 0) = true := decide_eq_true c3
  clear c3
  simp only [Option.some.injEq, Prod.mk.injEq] at H
  obtain ⟨rfl, rfl, rfl⟩ := H
  obtain ⟨Ao4, co4, eo4⟩ := Kd.R_slice HO0_1.out
  subst eo4
  go_enter Try.func21, Try.ntmps21
  go_wp2_with (first | ((with_reducible refine gate_dst (N := 2) rfl ?_); refine box_event ?hg (N := 2) ?hd (cs := #[.int .i64 a0_0, .slice Ao4 l0_1.length co4]) (t := 28) ?hr ?_; (case hd => rfl); (case hg => rfl); (case hr => first | (go_simp; done) | (go_simp; rfl)); intro gb128 hg w5 hbox hb; have n0_ := Yj (Kd.R_below (by (with_reducible repeat (first | apply Yl | apply Yk | apply Kd.R_drew)); exact HO0_1.out) hb); have n1_ := Yj (Kept.below (S := (fun k_ => P0_1_ k_)) (by repeat (first | (with_reducible first | exact HK.out | apply Kept.alloc | apply Kept.drewN | apply Kept.drew) | exact HK.out)) hb); have n2_ := Yj (below_step (by repeat (first | (with_reducible first | exact HB.out | apply Yf | apply Yg | apply Yh) | exact HB.out)) hb); have n3_ := Yj (hbox); have n4_ := Yj ((by rw [hg]; exact (by first | exact HK.out.1 | exact (show Kept w _ (fun k_ => P0_1_ k_) from by repeat (first | (with_reducible first | exact HK.out | apply Kept.alloc | apply Kept.drewN | apply Kept.drew) | exact HK.out)).1) : w.heap.size ≤ gb128)); have n5_ := Yj ((by rw [hg]; exact (below_size (by repeat (first | (with_reducible first | exact HB.out | apply Yf | apply Yg | apply Yh) | exact HB.out))) : w0.heap.size ≤ gb128)); clear HO0_1; clear HK; clear HB; have HO0_1 := n0_; have HK := n1_; have HB := n2_; have BK128 := n3_; have GW128 := n4_; have GE128 := n5_; clear n0_ n1_ n2_ n3_ n4_ n5_; clear hb hbox hg) | ((with_reducible refine gate_dst (N := 4) rfl ?_); refine box_event ?hg (N := 4) ?hd (cs := #[.int .i64 0, .slice none 0 0]) (t := 28) ?hr ?_; (case hd => rfl); (case hg => rfl); (case hr => first | (go_simp; done) | (go_simp; rfl)); intro gb129 hg w6 hbox hb; have n0_ := Yj (Kd.R_below (by (with_reducible repeat (first | apply Yl | apply Yk | apply Kd.R_drew)); exact HO0_1.out) hb); have n1_ := Yj (blk_below (g := gb128) (o := .cells #[.int .i64 a0_0, .slice Ao4 l0_1.length co4] 28 (0, 0)) (by (with_reducible repeat (first | refine Ya ?_ _ | refine Yb ?_ | refine Yc ?_ _)); exact BK128.out) hb); have n2_ := Yj (Kept.below (S := (fun k_ => P0_1_ k_)) (by repeat (first | (with_reducible first | exact HK.out | apply Kept.alloc | apply Kept.drewN | apply Kept.drew | refine Kept.setCell ?_ (.inr GW128.out) _) | exact HK.out)) hb); have n3_ := Yj (below_step (by repeat (first | (with_reducible first | exact HB.out | apply Yf | apply Yg | apply Yh | refine Yi ?_ GE128.out) | exact HB.out)) hb); have n4_ := Yj (hbox); have n5_ := Yj ((by rw [hg]; exact (by first | exact HK.out.1 | exact (show Kept w _ (fun k_ => P0_1_ k_) from by repeat (first | (with_reducible first | exact HK.out | apply Kept.alloc | apply Kept.drewN | apply Kept.drew | refine Kept.setCell ?_ (.inr GW128.out) _) | exact HK.out)).1) : w.heap.size ≤ gb129)); have n6_ := Yj ((by rw [hg]; exact (below_size (by repeat (first | (with_reducible first | exact HB.out | apply Yf | apply Yg | apply Yh | refine Yi ?_ GE128.out) | exact HB.out))) : w0.heap.size ≤ gb129)); have n7_ := Yj ((by rw [hg]; exact Nat.ne_of_lt (blk_lt (g := gb128) (o := .cells #[.int .i64 a0_0, .slice Ao4 l0_1.length co4] 28 (0, 0)) (by (with_reducible repeat (first | refine Ya ?_ _ | refine Yb ?_ | refine Yc ?_ _)); exact BK128.out)) : gb128 ≠ gb129)); have n8_ := Yj ((by rw [hg]; exact Nat.ne_of_gt (blk_lt (g := gb128) (o := .cells #[.int .i64 a0_0, .slice Ao4 l0_1.length co4] 28 (0, 0)) (by (with_reducible repeat (first | refine Ya ?_ _ | refine Yb ?_ | refine Yc ?_ _)); exact BK128.out)) : gb129 ≠ gb128)); clear HO0_1; clear BK128; clear HK; clear HB; have HO0_1 := n0_; have BK128 := n1_; have HK := n2_; have HB := n3_; have BK129 := n4_; have GW129 := n5_; have GE129 := n6_; have NB128_129 := n7_; have NB129_128 := n8_; clear n0_ n1_ n2_ n3_ n4_ n5_ n6_ n7_ n8_; clear hb hbox hg; have hnb7 := NB129_128.out; have hnc7 := NB128_129.out; have hcz8_0 : w6.cell? ⟨gb129, 0, none⟩ = some (.int .i64 0) := (Yd BK129.out 0).trans rfl; have hcz8_1 : w6.cell? ⟨gb129, 1, none⟩ = some (.slice none 0 0) := (Yd BK129.out 1).trans rfl; have hfz8_0 := Ye BK129.out 0; have hfz8_1 := Ye BK129.out 1))
  refine bodyPost_ret (results_ct rfl _ _ gb129 28 #[.int .i64 0, .slice none 0 0] (0, 0) _ rfl (by (with_reducible repeat (first | refine Ya ?_ _ | refine Yb ?_ | refine Yc ?_ _)); refine blk_put (cs := #[.int .i64 0, .slice none 0 0]) ?_ 1 _ rfl; (with_reducible repeat (first | refine Ya ?_ _ | refine Yb ?_ | refine Yc ?_ _)); refine blk_put (cs := #[.int .i64 0, .slice none 0 0]) ?_ 0 _ rfl; (with_reducible repeat (first | refine Ya ?_ _ | refine Yb ?_ | refine Yc ?_ _)); exact BK129.out) Try.underlying28 rfl (by kernel_rfl)) rfl ?_
  exact ⟨_, by first | rfl | (simp [errW_none, errW_some] <;> rfl) | (simp [*, errW_none, errW_some] <;> rfl), by first | exact Kd.R_nil _ _ _ _ _ | exact Kd.N_nil _ _ _ _ _ | exact Kd.V_nil _ _ _ _ _ | exact Kd.Q_nil _ _ _ _ _ | exact Kd.S_nil _ _ _ _ _, by repeat (first | (with_reducible first | exact HB.out | apply Yf | apply Yg | apply Yh | refine Yi ?_ GE128.out | refine Yi ?_ GE129.out) | exact HB.out), by repeat (first | (with_reducible first | exact HK.out | apply Kept.alloc | apply Kept.drewN | apply Kept.drew | refine Kept.setCell ?_ (.inr GW128.out) _ | refine Kept.setCell ?_ (.inr GW129.out) _) | exact HK.out)⟩
 ·rw [if_neg c3] at H
  have c3b0 : decide (a1 < 0) = false := decide_eq_false c3
  clear c3
  simp only [Option.some.injEq, Prod.mk.injEq] at H
  obtain ⟨rfl, rfl, rfl⟩ := H
  obtain ⟨Ao9, co9, eo9⟩ := Kd.R_slice HO0_1.out
  subst eo9
  go_enter Try.func21, Try.ntmps21
  go_wp2_with (first | ((with_reducible refine gate_dst (N := 2) rfl ?_); refine box_event ?hg (N := 2) ?hd (cs := #[.int .i64 a0_0, .slice Ao9 l0_1.length co9]) (t := 28) ?hr ?_; (case hd => rfl); (case hg => rfl); (case hr => first | (go_simp; done) | (go_simp; rfl)); intro gb128 hg w10 hbox hb; have n0_ := Yj (Kd.R_below (by (with_reducible repeat (first | apply Yl | apply Yk | apply Kd.R_drew)); exact HO0_1.out) hb); have n1_ := Yj (Kept.below (S := (fun k_ => P0_1_ k_)) (by repeat (first | (with_reducible first | exact HK.out | apply Kept.alloc | apply Kept.drewN | apply Kept.drew) | exact HK.out)) hb); have n2_ := Yj (below_step (by repeat (first | (with_reducible first | exact HB.out | apply Yf | apply Yg | apply Yh) | exact HB.out)) hb); have n3_ := Yj (hbox); have n4_ := Yj ((by rw [hg]; exact (by first | exact HK.out.1 | exact (show Kept w _ (fun k_ => P0_1_ k_) from by repeat (first | (with_reducible first | exact HK.out | apply Kept.alloc | apply Kept.drewN | apply Kept.drew) | exact HK.out)).1) : w.heap.size ≤ gb128)); have n5_ := Yj ((by rw [hg]; exact (below_size (by repeat (first | (with_reducible first | exact HB.out | apply Yf | apply Yg | apply Yh) | exact HB.out))) : w0.heap.size ≤ gb128)); clear HO0_1; clear HK; clear HB; have HO0_1 := n0_; have HK := n1_; have HB := n2_; have BK128 := n3_; have GW128 := n4_; have GE128 := n5_; clear n0_ n1_ n2_ n3_ n4_ n5_; clear hb hbox hg) | ((with_reducible refine gate_dst (N := 4) rfl ?_); refine box_event ?hg (N := 4) ?hd (cs := #[.int .i64 0, .slice none 0 0]) (t := 28) ?hr ?_; (case hd => rfl); (case hg => rfl); (case hr => first | (go_simp; done) | (go_simp; rfl)); intro gb129 hg w11 hbox hb; have n0_ := Yj (Kd.R_below (by (with_reducible repeat (first | apply Yl | apply Yk | apply Kd.R_drew)); exact HO0_1.out) hb); have n1_ := Yj (blk_below (g := gb128) (o := .cells #[.int .i64 a0_0, .slice Ao9 l0_1.length co9] 28 (0, 0)) (by (with_reducible repeat (first | refine Ya ?_ _ | refine Yb ?_ | refine Yc ?_ _)); exact BK128.out) hb); have n2_ := Yj (Kept.below (S := (fun k_ => P0_1_ k_)) (by repeat (first | (with_reducible first | exact HK.out | apply Kept.alloc | apply Kept.drewN | apply Kept.drew | refine Kept.setCell ?_ (.inr GW128.out) _) | exact HK.out)) hb); have n3_ := Yj (below_step (by repeat (first | (with_reducible first | exact HB.out | apply Yf | apply Yg | apply Yh | refine Yi ?_ GE128.out) | exact HB.out)) hb); have n4_ := Yj (hbox); have n5_ := Yj ((by rw [hg]; exact (by first | exact HK.out.1 | exact (show Kept w _ (fun k_ => P0_1_ k_) from by repeat (first | (with_reducible first | exact HK.out | apply Kept.alloc | apply Kept.drewN | apply Kept.drew | refine Kept.setCell ?_ (.inr GW128.out) _) | exact HK.out)).1) : w.heap.size ≤ gb129)); have n6_ := Yj ((by rw [hg]; exact (below_size (by repeat (first | (with_reducible first | exact HB.out | apply Yf | apply Yg | apply Yh | refine Yi ?_ GE128.out) | exact HB.out))) : w0.heap.size ≤ gb129)); have n7_ := Yj ((by rw [hg]; exact Nat.ne_of_lt (blk_lt (g := gb128) (o := .cells #[.int .i64 a0_0, .slice Ao9 l0_1.length co9] 28 (0, 0)) (by (with_reducible repeat (first | refine Ya ?_ _ | refine Yb ?_ | refine Yc ?_ _)); exact BK128.out)) : gb128 ≠ gb129)); have n8_ := Yj ((by rw [hg]; exact Nat.ne_of_gt (blk_lt (g := gb128) (o := .cells #[.int .i64 a0_0, .slice Ao9 l0_1.length co9] 28 (0, 0)) (by (with_reducible repeat (first | refine Ya ?_ _ | refine Yb ?_ | refine Yc ?_ _)); exact BK128.out)) : gb129 ≠ gb128)); clear HO0_1; clear BK128; clear HK; clear HB; have HO0_1 := n0_; have BK128 := n1_; have HK := n2_; have HB := n3_; have BK129 := n4_; have GW129 := n5_; have GE129 := n6_; have NB128_129 := n7_; have NB129_128 := n8_; clear n0_ n1_ n2_ n3_ n4_ n5_ n6_ n7_ n8_; clear hb hbox hg; have hnb12 := NB128_129.out; have hnc12 := NB129_128.out; have hcz13_0 : w11.cell? ⟨gb128, 0, none⟩ = some (.int .i64 a0_0) := (Yd BK128.out 0).trans rfl; have hcz13_1 : w11.cell? ⟨gb128, 1, none⟩ = some (.slice Ao9 l0_1.length co9) := (Yd BK128.out 1).trans rfl; have hfz13_0 := Ye BK128.out 0; have hfz13_1 := Ye BK128.out 1; have hcz14_0 : w11.cell? ⟨gb129, 0, none⟩ = some (.int .i64 0) := (Yd BK129.out 0).trans rfl; have hcz14_1 : w11.cell? ⟨gb129, 1, none⟩ = some (.slice none 0 0) := (Yd BK129.out 1).trans rfl; have hfz14_0 := Ye BK129.out 0; have hfz14_1 := Ye BK129.out 1))
  refine bodyPost_ret (results_ct rfl _ _ gb129 28 #[.int .i64 a0_0, .slice Ao9 l0_1.length co9] (0, 0) _ rfl (by (with_reducible repeat (first | refine Ya ?_ _ | refine Yb ?_ | refine Yc ?_ _)); refine blk_put (cs := #[.int .i64 a0_0, .slice none 0 0]) ?_ 1 _ rfl; (with_reducible repeat (first | refine Ya ?_ _ | refine Yb ?_ | refine Yc ?_ _)); refine blk_put (cs := #[.int .i64 0, .slice none 0 0]) ?_ 0 _ rfl; (with_reducible repeat (first | refine Ya ?_ _ | refine Yb ?_ | refine Yc ?_ _)); exact BK129.out) Try.underlying28 rfl (by kernel_rfl)) rfl ?_
  exact ⟨_, by first | rfl | (simp [errW_none, errW_some] <;> rfl) | (simp [*, errW_none, errW_some] <;> rfl), by (with_reducible repeat (first | apply Yl | apply Yk | apply Kd.R_drew)); exact Kd.R_mono (Kd.R_far (p := ⟨gb129, 1, none⟩) (Kd.R_far (p := ⟨gb129, 0, none⟩) (Kd.R_types HO0_1.out BK129.out (by decide)) (fun _ hk => hk.2) (.int .i64 a0_0)) (fun _ hk => hk.2) (.slice Ao9 l0_1.length co9)) (fun _ hk => hk.1), by repeat (first | (with_reducible first | exact HB.out | apply Yf | apply Yg | apply Yh | refine Yi ?_ GE128.out | refine Yi ?_ GE129.out) | exact HB.out), by repeat (first | (with_reducible first | exact HK.out | apply Kept.alloc | apply Kept.drewN | apply Kept.drew | refine Kept.setCell ?_ (.inr GW128.out) _ | refine Kept.setCell ?_ (.inr GW129.out) _) | exact HK.out)⟩

end Go.Proofs.Ythphgkhmeobadaa.XFnAddAndOr
