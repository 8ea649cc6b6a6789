/- Printed by a program of this session out of the translation: the Go functions that a law uses as plain Lean functions, with the proofs of their calls, or the law's row.
Conditions: those that each theorem states. -/
import Derived.Test.YthphgkhmeobadaaXFnAddAndOrx0
import Derived.Test.YthphgkhmeobadaaXFnAddAndOrx1
import Derived.Test.YthphgkhmeobadaaXFnAddAndOrx7
namespace Go.Proofs.Ythphgkhmeobadaa.XFnAddAndOr
open Go.RowKit Go.Proofs.YthphgkhmeobadaaW.PrintWords Go.Proofs.YthphgkhmeobadaaW.PrintLast Go.Proofs.YthphgkhmeobadaaW.PrintMore
attribute [local go_sem] max2_int min2_int max_two min_two max_three min_three max_four min_four   -- for this text's walks alone
set_option linter.unusedVariables false
set_option linter.unusedSimpArgs false

/-! ### spec_l7Draw: function 46 -/
def spec_l7Draw.l0 : Nat → Int → List Int → Int → Int → List (S57) → Option (Int × (List (S57)) × Int)
 | 0, _, _, _, _, _ => none
 | k + 1, x6, x1000, x1001, x171000, x171001 => if x6 > 0 then ((spec_l7Nodes.f x171000 x171001).bind fun t176 => ((spec_l40Rd_pick.f k x1000 x1001 (wrap64 (2 * t176))).bind fun bt177 => ((spec_l40Rd_pick.f k x1000 bt177.2 (wrap64 (Int.tdiv (wrap64 ((wrap64 (2 * t176)) + 1)) 2))).bind fun bt179 => (if x171001.length < 8796093022208 then (spec_l7Draw.l0 k (wrap64 (x6 - 1)) x1000 bt179.2 x171000 (x171001 ++ [(⟨bt177.1, wrap64 ((wrap64 ((wrap64 (2 * t176)) - 1)) - bt179.1)⟩ : S57)])) else (none))))) else (some (x171000, x171001, x1001))
def spec_l7Draw.f (k : Nat) (s0_0 : List Int) (s0_1 : Int) (a1 : Int) : Option (Int × (List (S57)) × Int) := (spec_l40Rd_pick.f k s0_0 s0_1 (wrap64 (a1 + 1))).bind fun bt168 => ((spec_l40Rd_num.f k s0_0 bt168.2 (([3, 6, 10, 1, 14, 0] : List Int))).bind fun bt174 => (spec_l7Draw.l0 k bt174.1 s0_0 bt174.2 bt168.1 ([] : List (S57))))
theorem spec_l7Draw.mono_l : ∀ k, (∀ y0 y1 y2 y3 y4, LeO (spec_l7Draw.l0 k y0 y1 y2 y3 y4) (spec_l7Draw.l0 (k + 1) y0 y1 y2 y3 y4))
 | 0 => fun _ _ _ _ _ r h => by simp [spec_l7Draw.l0] at h
 | k + 1 => by
  have ih0 := spec_l7Draw.mono_l k
  ·intro y0 y1 y2 y3 y4
   unfold spec_l7Draw.l0
   repeat' first
   | (with_reducible exact ih0 _ _ _ _ _)
   | (with_reducible exact spec_l40Rd_num.mono _ _ _ _)
   | (with_reducible exact spec_l40Rd_pick.mono _ _ _ _)
   | (with_reducible exact LeO.refl _)
   | (with_reducible exact LeO.none _)
   | (with_reducible refine LeO.ite ?_ ?_)
   | (with_reducible refine LeO.bind ?_ (fun _ => ?_))
   | exact ih0 _ _ _ _ _
   | exact spec_l40Rd_num.mono _ _ _ _
   | exact spec_l40Rd_pick.mono _ _ _ _
   | exact LeO.none _
   | refine LeO.ite ?_ ?_
   | refine LeO.bind ?_ (fun _ => ?_)
theorem spec_l7Draw.mono : ∀ a0 a1 a2 k, LeO (spec_l7Draw.f k a0 a1 a2) (spec_l7Draw.f (k + 1) a0 a1 a2) := by
 intro a0 a1 a2 k
 have ih0 := spec_l7Draw.mono_l k
 unfold spec_l7Draw.f
 repeat' first
   | (with_reducible exact ih0 _ _ _ _ _)
   | (with_reducible exact spec_l40Rd_num.mono _ _ _ _)
   | (with_reducible exact spec_l40Rd_pick.mono _ _ _ _)
   | (with_reducible exact LeO.refl _)
   | (with_reducible exact LeO.none _)
   | (with_reducible refine LeO.ite ?_ ?_)
   | (with_reducible refine LeO.bind ?_ (fun _ => ?_))
   | exact ih0 _ _ _ _ _
   | exact spec_l40Rd_num.mono _ _ _ _
   | exact spec_l40Rd_pick.mono _ _ _ _
   | exact LeO.none _
   | refine LeO.ite ?_ ?_
   | refine LeO.bind ?_ (fun _ => ?_)
def spec_l7Draw.T6 : Bool × List (List Nat × List Nat) := (true, [([], []), ([0], [0]), ([], []), ([], []), ([2, 3], [2, 3]), ([], []), ([5], [5]), ([], []), ([], []), ([8], [8]), ([9], [9]), ([7, 10, 4], [7, 10]), ([6, 11], [6, 11]), ([4, 12], [4, 12]), ([13], [13]), ([1, 14, 11], [1, 14]), ([0, 1, 2, 3, 4, 5, 6, 7, 8, 9, 10, 11, 12, 13, 14, 15], []), ([16, 15, 15, 0, 1, 2, 3, 4, 5, 6, 7, 8, 9, 10, 11, 12, 13, 14, 15], [15, 16])])
def spec_l7Draw.B6 : List Nat := [0, 1, 0, 0, 12, 0, 32, 0, 0, 256, 768, 1948, 4092, 8188, 16380, 32767, 65535, 131071]
theorem spec_l7Draw.tab6 : rtab .any (opsOf Try.f46 6) = spec_l7Draw.T6 := by kernel_rfl
theorem spec_l7Draw.bits6 : waitsOk spec_l7Draw.T6.2 spec_l7Draw.B6 = true := by kernel_rfl
set_option maxHeartbeats 8000000 in
set_option maxRecDepth 100000 in
theorem spec_l7Draw.calls (k : Nat) (g : Nat) (s0_0 : List Int) (s0_1 : Int) (a1 : Int) (r1 : Int) (r2 : List (S57)) (r3 : Int) (w0 w : World) (hI : IsS71 w0 w g s0_0 s0_1) (hB : Below w0.heap.size w0 w) (h : spec_l7Draw.f k s0_0 s0_1 a1 = some (r1, r2, r3)) :
  Calls Try.prog 46 #[.pointer (some ⟨g, 0, none⟩), .int .i64 a1] w fun e w' => ∃ v1_ : Value, e = .returned (.agg #[.int .i64 r1, v1_]) ∧ Kd.R k57 57 w' w.heap.size (fun _ => True) v1_ r2 ∧ IsS71 w0 w' g s0_0 r3 ∧ Below w0.heap.size w0 w' ∧ KeepBut w w' g none := by
 have hu28 := Try.underlying28
 have hu57 := Try.underlying57
 have HI0 := Yj hI
 have HK := Yj (KeepBut.refl w g none)
 have HL := Yj hB.size
 clear hI
 have HW0 := Yj hB.size
 have HB := Yj hB
 clear hB
 have H : ((spec_l40Rd_pick.f k s0_0 s0_1 (wrap64 (a1 + 1))).bind fun bt168 => ((spec_l40Rd_num.f k s0_0 bt168.2 (([3, 6, 10, 1, 14, 0] : List Int))).bind fun bt174 => (spec_l7Draw.l0 k bt174.1 s0_0 bt174.2 bt168.1 ([] : List (S57))))) = some (r1, r2, r3) := h
 clear h
 replace H := Option.bind_eq_some_iff.mp H
 obtain ⟨⟨t168, t169⟩, A30, H⟩ := H
 replace H : ((spec_l40Rd_num.f k s0_0 t169 (([3, 6, 10, 1, 14, 0] : List Int))).bind fun bt174 => (spec_l7Draw.l0 k bt174.1 s0_0 bt174.2 t168 ([] : List (S57)))) = some (r1, r2, r3) := H
 have A3 := Yj A30
 clear A30
 obtain ⟨y171, hy171⟩ : ∃ y_ : List Int, y_ = (([3, 6, 10, 1, 14, 0] : List Int)) := ⟨_, rfl⟩
 replace H : ((spec_l40Rd_num.f k s0_0 t169 y171).bind fun bt174 => (spec_l7Draw.l0 k bt174.1 s0_0 bt174.2 t168 ([] : List (S57)))) = some (r1, r2, r3) := by first | (rw [hy171]; with_reducible exact H) | (have H2_ := (Option.bind_some _ _).symm.trans H; rw [hy171]; with_reducible exact H2_) | (have H2_ := (Option.bind_some _ _).symm.trans H; with_reducible exact H2_) | with_reducible exact H | (rw [hy171]; exact H) | exact H
 have Ny171 := Yj hy171
 clear hy171
 replace H := Option.bind_eq_some_iff.mp H
 obtain ⟨⟨t174, t175⟩, A40, H⟩ := H
 replace H : (spec_l7Draw.l0 k t174 s0_0 t175 t168 ([] : List (S57))) = some (r1, r2, r3) := H
 have A4 := Yj A40
 clear A40
 have H' := Yj H
 clear H
 go_enter Try.func46, Try.ntmps46
 go_wp2_with (first | ((with_reducible refine gate_dst (N := 4) rfl ?_); refine box_event ?hg (N := 4) ?hd (cs := #[.int .i64 0, .slice none 0 0]) (t := 28) ?hr ?_; (case hd => rfl); (case hg => rfl); (case hr => first | (go_simp; done) | (go_simp; rfl)); intro gb167 hg w5 hbox hb; have n0_ := Yj (IsS71.below (by repeat (first | (with_reducible first | exact HI0.out | apply IsS71.alloc | apply IsS71.drewN | apply IsS71.drew | apply IsS71.set_1) | exact HI0.out)) hb); have n1_ := Yj (KeepBut.trans (by repeat (first | (with_reducible first | exact HK.out | apply KeepBut.set_ | apply keep_drewN | apply keep_drew | apply keep_alloc) | exact HK.out)) (KeepBut.of_below hb g none) (.inl rfl)); have n2_ := Yj (below_step (by repeat (first | (with_reducible first | exact HB.out | apply Yf | apply Yg | apply Yh | refine Yi ?_ (IsS71.ge HI0.out)) | exact HB.out)) hb); have n3_ := Yj (hbox); have n4_ := Yj ((by rw [hg]; exact (keep_size (w := w) (g := g) (row := none) (by repeat (first | (with_reducible first | exact HK.out | apply KeepBut.set_ | apply keep_drewN | apply keep_drew | apply keep_alloc) | exact HK.out))) : w.heap.size ≤ gb167)); have n5_ := Yj ((Nat.le_trans HW0.out (by rw [hg]; exact (keep_size (w := w) (g := g) (row := none) (by repeat (first | (with_reducible first | exact HK.out | apply KeepBut.set_ | apply keep_drewN | apply keep_drew | apply keep_alloc) | exact HK.out))) : w.heap.size ≤ gb167) : w0.heap.size ≤ gb167)); have n6_ := Yj ((by rw [hg]; exact Nat.ne_of_lt (IsS71.lt (show IsS71 w0 _ g s0_0 s0_1 from by repeat (first | (with_reducible first | exact HI0.out | apply IsS71.alloc | apply IsS71.drewN | apply IsS71.drew | apply IsS71.set_1) | exact HI0.out))) : g ≠ gb167)); have n7_ := Yj ((by rw [hg]; exact Nat.ne_of_gt (IsS71.lt (show IsS71 w0 _ g s0_0 s0_1 from by repeat (first | (with_reducible first | exact HI0.out | apply IsS71.alloc | apply IsS71.drewN | apply IsS71.drew | apply IsS71.set_1) | exact HI0.out))) : gb167 ≠ g)); clear HI0; clear HK; clear HB; have HI0 := n0_; have HK := n1_; have HB := n2_; have BK167 := n3_; have GW167 := n4_; have GE167 := n5_; have NB0_167 := n6_; have NB167_0 := n7_; clear n0_ n1_ n2_ n3_ n4_ n5_ n6_ n7_; clear hb hbox hg) | ((with_reducible refine gate_callee (f := 35) rfl ?_); refine goesL_ (some 11) rfl rfl Try.func35 (by kernel_rfl) rfl #[.pointer (some ⟨g, 0, none⟩), .int .i64 (wrap64 (a1 + 1))] rfl (by (try simp only [List.map_toArray, List.map_cons, List.map_nil]); first | done | rfl | (simp only [List.length_drop, List.length_take]; rfl)) ?_; (with_reducible refine (spec_l40Rd_pick.calls k g s0_0 s0_1 (wrap64 (a1 + 1)) t168 t169 w0 _ ?side1 ?side2 A3.out).mono ?_); (case side1 => repeat (first | (with_reducible first | exact HI0.out | apply IsS71.alloc | apply IsS71.drewN | apply IsS71.drew | apply IsS71.set_1 | refine IsS71.far ?_ NB0_167.out _) | exact HI0.out)); (case side2 => repeat (first | (with_reducible first | exact HB.out | apply Yf | apply Yg | apply Yh | refine Yi ?_ (IsS71.ge HI0.out) | refine Yi ?_ GE167.out) | exact HB.out)); rintro e w6 ⟨rfl, hi, hb, hk⟩; refine ⟨_, rfl, ?_⟩; have n0_ := Yj (KeepBut.blk hk (g' := gb167) (o := .cells #[.int .i64 0, .slice none 0 0] 28 (0, 0)) (by (with_reducible repeat (first | refine Ya ?_ _ | refine Yb ?_ | refine Yc ?_ _)); exact BK167.out) NB167_0.out (by simp)); have n1_ := Yj (KeepBut.trans (by repeat (first | (with_reducible first | exact HK.out | apply KeepBut.set_ | apply keep_drewN | apply keep_drew | apply keep_alloc | refine keep_far ?_ GW167.out _) | exact HK.out)) hk (.inl rfl)); have n2_ := Yj (hb); have n3_ := Yj (hi); clear BK167; clear HK; clear HB; clear HI0; have BK167 := n0_; have HK := n1_; have HB := n2_; have HI0 := n3_; clear n0_ n1_ n2_ n3_; (try clear hb); (try clear hb2); (try clear hk); (try clear hi)) | ((with_reducible refine gate_dst (N := 5) rfl ?_); refine box_event ?hg (N := 5) ?hd (cs := #[.int .i64 0, .slice none 0 0]) (t := 28) ?hr ?_; (case hd => rfl); (case hg => rfl); (case hr => first | (go_simp; done) | (go_simp; rfl)); intro gb170 hg w7 hbox hb; have n0_ := Yj (IsS71.below (by repeat (first | (with_reducible first | exact HI0.out | apply IsS71.alloc | apply IsS71.drewN | apply IsS71.drew | apply IsS71.set_1 | refine IsS71.far ?_ NB0_167.out _) | exact HI0.out)) hb); have n1_ := Yj (blk_below (g := gb167) (o := .cells #[.int .i64 0, .slice none 0 0] 28 (0, 0)) (by (with_reducible repeat (first | refine Ya ?_ _ | refine Yb ?_ | refine Yc ?_ _)); exact BK167.out) hb); have n2_ := Yj (KeepBut.trans (by repeat (first | (with_reducible first | exact HK.out | apply KeepBut.set_ | apply keep_drewN | apply keep_drew | apply keep_alloc | refine keep_far ?_ GW167.out _) | exact HK.out)) (KeepBut.of_below hb g none) (.inl rfl)); have n3_ := Yj (below_step (by repeat (first | (with_reducible first | exact HB.out | apply Yf | apply Yg | apply Yh | refine Yi ?_ (IsS71.ge HI0.out) | refine Yi ?_ GE167.out) | exact HB.out)) hb); have n4_ := Yj (hbox); have n5_ := Yj ((by rw [hg]; exact (keep_size (w := w) (g := g) (row := none) (by repeat (first | (with_reducible first | exact HK.out | apply KeepBut.set_ | apply keep_drewN | apply keep_drew | apply keep_alloc | refine keep_far ?_ GW167.out _) | exact HK.out))) : w.heap.size ≤ gb170)); have n6_ := Yj ((Nat.le_trans HW0.out (by rw [hg]; exact (keep_size (w := w) (g := g) (row := none) (by repeat (first | (with_reducible first | exact HK.out | apply KeepBut.set_ | apply keep_drewN | apply keep_drew | apply keep_alloc | refine keep_far ?_ GW167.out _) | exact HK.out))) : w.heap.size ≤ gb170) : w0.heap.size ≤ gb170)); have n7_ := Yj ((by rw [hg]; exact Nat.ne_of_lt (blk_lt (g := gb167) (o := .cells #[.int .i64 0, .slice none 0 0] 28 (0, 0)) (by (with_reducible repeat (first | refine Ya ?_ _ | refine Yb ?_ | refine Yc ?_ _)); exact BK167.out)) : gb167 ≠ gb170)); have n8_ := Yj ((by rw [hg]; exact Nat.ne_of_gt (blk_lt (g := gb167) (o := .cells #[.int .i64 0, .slice none 0 0] 28 (0, 0)) (by (with_reducible repeat (first | refine Ya ?_ _ | refine Yb ?_ | refine Yc ?_ _)); exact BK167.out)) : gb170 ≠ gb167)); have n9_ := Yj ((by rw [hg]; exact Nat.ne_of_lt (IsS71.lt (show IsS71 w0 _ g s0_0 t169 from by repeat (first | (with_reducible first | exact HI0.out | apply IsS71.alloc | apply IsS71.drewN | apply IsS71.drew | apply IsS71.set_1 | refine IsS71.far ?_ NB0_167.out _) | exact HI0.out))) : g ≠ gb170)); have n10_ := Yj ((by rw [hg]; exact Nat.ne_of_gt (IsS71.lt (show IsS71 w0 _ g s0_0 t169 from by repeat (first | (with_reducible first | exact HI0.out | apply IsS71.alloc | apply IsS71.drewN | apply IsS71.drew | apply IsS71.set_1 | refine IsS71.far ?_ NB0_167.out _) | exact HI0.out))) : gb170 ≠ g)); clear HI0; clear BK167; clear HK; clear HB; have HI0 := n0_; have BK167 := n1_; have HK := n2_; have HB := n3_; have BK170 := n4_; have GW170 := n5_; have GE170 := n6_; have NB167_170 := n7_; have NB170_167 := n8_; have NB0_170 := n9_; have NB170_0 := n10_; clear n0_ n1_ n2_ n3_ n4_ n5_ n6_ n7_ n8_ n9_ n10_; clear hb hbox hg; have hnb8 := NB170_167.out; have hnc8 := NB167_170.out; have hnb9 := NB170_0.out; have hnc9 := NB0_170.out; have hcz10_0 : w7.cell? ⟨gb170, 0, none⟩ = some (.int .i64 0) := (Yd BK170.out 0).trans rfl; have hcz10_1 : w7.cell? ⟨gb170, 1, none⟩ = some (.slice none 0 0) := (Yd BK170.out 1).trans rfl; have hfz10_0 := Ye BK170.out 0; have hfz10_1 := Ye BK170.out 1) | ((with_reducible refine gate_dst (N := 14) rfl ?_); refine Kd.R_lit (Kd.int .i64) _ 3 ?hg (N := 14) ?hd (xs := ([3, 6, 10, 1, 14, 0] : List Int)) (inner := [.int .i64 3, .int .i64 6, .int .i64 10, .int .i64 1, .int .i64 14, .int .i64 0]) (ok := fun _ => True) (okp := fun _ => True) ?hr ?hp (fun _ hk => hk) trivial (Below.refl _ _) (Nat.le_refl _) (by simp) ?_; (case hd => rfl); (case hg => rfl); (case hr => first | (go_simp; done) | (go_simp; rfl)); (case hp => exact (Reps.one (show Kd.M (Kd.int .i64) _ _ _ 3 [.int .i64 3] from rfl) (Reps.one (show Kd.M (Kd.int .i64) _ _ _ 6 [.int .i64 6] from rfl) (Reps.one (show Kd.M (Kd.int .i64) _ _ _ 10 [.int .i64 10] from rfl) (Reps.one (show Kd.M (Kd.int .i64) _ _ _ 1 [.int .i64 1] from rfl) (Reps.one (show Kd.M (Kd.int .i64) _ _ _ 14 [.int .i64 14] from rfl) (Reps.one (show Kd.M (Kd.int .i64) _ _ _ 0 [.int .i64 0] from rfl) (Reps.none _ _)))))))); intro v172 w11 ho12 hb hg_ hnew_; clear hg_ hnew_; (first | rw [← Ny171.out] at ho12 | (simp only [Int.reduceToNat] at ho12; rw [← Ny171.out] at ho12)); have n0_ := Yj (Kd.R_lower ho12 (keep_size (w := w) (g := g) (row := none) (by repeat (first | (with_reducible first | exact HK.out | apply KeepBut.set_ | apply keep_drewN | apply keep_drew | apply keep_alloc | refine keep_far ?_ GW167.out _ | refine keep_far ?_ GW170.out _) | exact HK.out)))); have n1_ := Yj (IsS71.below (show IsS71 w0 ((w7.setCell ⟨gb170, 0, none⟩ (.int .i64 t168)).setCell ⟨gb170, 1, none⟩ (.slice none 0 0)) g s0_0 t169 from by repeat (first | (with_reducible first | exact HI0.out | apply IsS71.alloc | apply IsS71.drewN | apply IsS71.drew | apply IsS71.set_1 | refine IsS71.far ?_ NB0_167.out _ | refine IsS71.far ?_ NB0_170.out _) | exact HI0.out)) hb); have n2_ := Yj (blk_below (g := gb167) (o := .cells #[.int .i64 0, .slice none 0 0] 28 (0, 0)) (by (with_reducible repeat (first | refine Ya ?_ _ | refine Yb ?_ | refine Yc ?_ _)); refine blk_far ?_ NB167_170.out _; (with_reducible repeat (first | refine Ya ?_ _ | refine Yb ?_ | refine Yc ?_ _)); refine blk_far ?_ NB167_170.out _; (with_reducible repeat (first | refine Ya ?_ _ | refine Yb ?_ | refine Yc ?_ _)); exact BK167.out) hb); have n3_ := Yj (blk_below (g := gb170) (o := .cells #[.int .i64 t168, .slice none 0 0] 28 (0, 0)) (by (with_reducible repeat (first | refine Ya ?_ _ | refine Yb ?_ | refine Yc ?_ _)); refine blk_put (cs := #[.int .i64 t168, .slice none 0 0]) ?_ 1 _ rfl; (with_reducible repeat (first | refine Ya ?_ _ | refine Yb ?_ | refine Yc ?_ _)); refine blk_put (cs := #[.int .i64 0, .slice none 0 0]) ?_ 0 _ rfl; (with_reducible repeat (first | refine Ya ?_ _ | refine Yb ?_ | refine Yc ?_ _)); exact BK170.out) hb); have n4_ := Yj (KeepBut.trans (by repeat (first | (with_reducible first | exact HK.out | apply KeepBut.set_ | apply keep_drewN | apply keep_drew | apply keep_alloc | refine keep_far ?_ GW167.out _ | refine keep_far ?_ GW170.out _) | exact HK.out)) (KeepBut.of_below hb g none) (.inl rfl)); have n5_ := Yj (below_step (by repeat (first | (with_reducible first | exact HB.out | apply Yf | apply Yg | apply Yh | refine Yi ?_ (IsS71.ge HI0.out) | refine Yi ?_ GE167.out | refine Yi ?_ GE170.out) | exact HB.out)) hb); clear HI0; clear BK167; clear BK170; clear HK; clear HB; have HO173 := n0_; have HI0 := n1_; have BK167 := n2_; have BK170 := n3_; have HK := n4_; have HB := n5_; clear n0_ n1_ n2_ n3_ n4_ n5_; clear hb ho12; obtain ⟨Ao13, co13, eo13⟩ := Kd.R_slice HO173.out; subst eo13) | ((with_reducible refine gate_callee (f := 47) rfl ?_); refine goesL_ (some 15) rfl rfl Try.func47 (by kernel_rfl) rfl #[.pointer (some ⟨g, 0, none⟩), .slice Ao13 y171.length co13] rfl (by (try simp only [List.map_toArray, List.map_cons, List.map_nil]); first | done | rfl | (simp only [List.length_drop, List.length_take]; rfl)) ?_; (with_reducible refine (spec_l40Rd_num.calls k g s0_0 t169 _ _ y171 t174 t175 w0 _ ?side1 ?side2 ?side3 ?side4 ?side5 A4.out).mono ?_); (case side1 => repeat (first | (with_reducible first | exact HI0.out | apply IsS71.alloc | apply IsS71.drewN | apply IsS71.drew | apply IsS71.set_1 | refine IsS71.far ?_ NB0_167.out _ | refine IsS71.far ?_ NB0_170.out _) | exact HI0.out)); (case side2 => repeat (first | (with_reducible first | exact HB.out | apply Yf | apply Yg | apply Yh | refine Yi ?_ (IsS71.ge HI0.out) | refine Yi ?_ GE167.out | refine Yi ?_ GE170.out) | exact HB.out)); (case side3 => repeat (first | exact (Kd.R_reads' HO173.out).2.2 | (with_reducible refine Kd.C_alloc ?_ _) | (with_reducible refine Kd.C_drewN ?_ _) | (with_reducible refine Kd.C_drew ?_))); (case side4 => exact (Kd.R_reads' HO173.out).2.1); (case side5 => exact far_slice (IsS71.own_ne HI0.out HO173.out (by decide))); rintro e w14 ⟨rfl, hi, hb, hk⟩; refine ⟨_, rfl, ?_⟩; have n0_ := Yj (KeepBut.blk hk (g' := gb167) (o := .cells #[.int .i64 0, .slice none 0 0] 28 (0, 0)) (by (with_reducible repeat (first | refine Ya ?_ _ | refine Yb ?_ | refine Yc ?_ _)); exact BK167.out) NB167_0.out (by simp)); have n1_ := Yj (KeepBut.blk hk (g' := gb170) (o := .cells #[.int .i64 t168, .slice none 0 0] 28 (0, 0)) (by (with_reducible repeat (first | refine Ya ?_ _ | refine Yb ?_ | refine Yc ?_ _)); exact BK170.out) NB170_0.out (by simp)); have n2_ := Yj (Kd.R_mono (Kd.R_keep (IsS71.apart (show IsS71 w0 _ g s0_0 t169 from by repeat (first | (with_reducible first | exact HI0.out | apply IsS71.alloc | apply IsS71.drewN | apply IsS71.drew | apply IsS71.set_1 | refine IsS71.far ?_ NB0_167.out _ | refine IsS71.far ?_ NB0_170.out _) | exact HI0.out)) (by (with_reducible repeat (first | apply Yl | apply Yk | apply Kd.R_drew)); exact HO173.out) (by decide)) hk (fun _ h => h.2)) (fun _ h => h.1)); have n3_ := Yj (KeepBut.trans (by repeat (first | (with_reducible first | exact HK.out | apply KeepBut.set_ | apply keep_drewN | apply keep_drew | apply keep_alloc | refine keep_far ?_ GW167.out _ | refine keep_far ?_ GW170.out _) | exact HK.out)) hk (.inl rfl)); have n4_ := Yj (hb); have n5_ := Yj (hi); clear BK167; clear BK170; clear HO173; clear HK; clear HB; clear HI0; have BK167 := n0_; have BK170 := n1_; have HO173 := n2_; have HK := n3_; have HB := n4_; have HI0 := n5_; clear n0_ n1_ n2_ n3_ n4_ n5_; (try clear hb); (try clear hb2); (try clear hk); (try clear hi)))
 go_loopg [6] k (fun kq v6 w' => ∃ (x6_1 : Int) (x1001_1 : Int) (x171001_1 : List (S57)) (u171001 : Value), v6 = .int .i64 x6_1 ∧ Aside0 (spec_l7Draw.l0 kq x6_1 s0_0 x1001_1 t168 x171001_1 = some (r1, r2, r3)) ∧ Aside0 (kq ≤ k) ∧ Aside0 (Kd.R k57 57 w' w.heap.size (fun _ => True) u171001 x171001_1) ∧ Aside0 (w'.heap[gb167]? = some (.cells #[.int .i64 0, (.slice none 0 0)] 28 (0, 0))) ∧ Aside0 (w'.heap[gb170]? = some (.cells #[.int .i64 t168, u171001] 28 (0, 0))) ∧ Aside0 (IsS71 w0 w' g s0_0 x1001_1) ∧ Aside0 (KeepBut w w' g none) ∧ Aside0 (Below w0.heap.size w0 w'))
 case atStart => exact ⟨(t174), (t175), (([] : List (S57))), (.slice none 0 0), (by first | rfl | (simp; done) | (simp [*]; done)), H', ⟨Nat.le_refl _⟩, ⟨by first | exact Kd.R_nil _ _ _ _ _ | exact Kd.N_nil _ _ _ _ _ | exact Kd.V_nil _ _ _ _ _ | exact Kd.Q_nil _ _ _ _ _ | exact Kd.S_nil _ _ _ _ _⟩, ⟨by (with_reducible repeat (first | refine Ya ?_ _ | refine Yb ?_ | refine Yc ?_ _)); exact BK167.out⟩, ⟨by (with_reducible repeat (first | refine Ya ?_ _ | refine Yb ?_ | refine Yc ?_ _)); exact BK170.out⟩, ⟨by repeat (first | (with_reducible first | exact HI0.out | apply IsS71.alloc | apply IsS71.drewN | apply IsS71.drew | apply IsS71.set_1 | refine IsS71.far ?_ NB0_167.out _ | refine IsS71.far ?_ NB0_170.out _) | exact HI0.out)⟩, ⟨by repeat (first | (with_reducible first | exact HK.out | apply KeepBut.set_ | apply keep_drewN | apply keep_drew | apply keep_alloc | refine keep_far ?_ GW167.out _ | refine keep_far ?_ GW170.out _) | exact HK.out)⟩, ⟨by repeat (first | (with_reducible first | exact HB.out | apply Yf | apply Yg | apply Yh | refine Yi ?_ (IsS71.ge HI0.out) | refine Yi ?_ GE167.out | refine Yi ?_ GE170.out) | exact HB.out)⟩⟩
 case round =>
  clear H'
  try clear p2
  try clear c3
  try clear c4
  try clear p6
  try clear c8
  try clear c9
  try clear hcz10_0
  try clear hcz10_1
  try clear hfz10_0
  try clear hfz10_1
  obtain ⟨x6_1, x1001_1, x171001_1, u171001, rfl, HA, HK1, HO_171001, BK167, BK170, HI0, HK, HB⟩ := hrel
  cases gk with
  | zero => exact absurd HA.out (by simp [spec_l7Draw.l0])
  | succ k1 =>
   have H := HA.out
   clear HA
   simp only [spec_l7Draw.l0] at H
   by_cases c15 : x6_1 > 0
   ·rw [if_pos c15] at H
    have c15b0 : decide (0 < x6_1) = true := decide_eq_true c15
    clear c15
    replace H := Option.bind_eq_some_iff.mp H
    obtain ⟨t176, A160, H⟩ := H
    replace H : ((spec_l40Rd_pick.f k1 s0_0 x1001_1 (wrap64 (2 * t176))).bind fun bt177 => ((spec_l40Rd_pick.f k1 s0_0 bt177.2 (wrap64 (Int.tdiv (wrap64 ((wrap64 (2 * t176)) + 1)) 2))).bind fun bt179 => (if x171001_1.length < 8796093022208 then (spec_l7Draw.l0 k1 (wrap64 (x6_1 - 1)) s0_0 bt179.2 t168 (x171001_1 ++ [(⟨bt177.1, wrap64 ((wrap64 ((wrap64 (2 * t176)) - 1)) - bt179.1)⟩ : S57)])) else (none)))) = some (r1, r2, r3) := H
    have A16 := Yj A160
    clear A160
    replace H := Option.bind_eq_some_iff.mp H
    obtain ⟨⟨t177, t178⟩, A170, H⟩ := H
    replace H : ((spec_l40Rd_pick.f k1 s0_0 t178 (wrap64 (Int.tdiv (wrap64 ((wrap64 (2 * t176)) + 1)) 2))).bind fun bt179 => (if x171001_1.length < 8796093022208 then (spec_l7Draw.l0 k1 (wrap64 (x6_1 - 1)) s0_0 bt179.2 t168 (x171001_1 ++ [(⟨t177, wrap64 ((wrap64 ((wrap64 (2 * t176)) - 1)) - bt179.1)⟩ : S57)])) else (none))) = some (r1, r2, r3) := H
    have A17 := Yj A170
    clear A170
    replace H := Option.bind_eq_some_iff.mp H
    obtain ⟨⟨t179, t180⟩, A180, H⟩ := H
    replace H : (if x171001_1.length < 8796093022208 then (spec_l7Draw.l0 k1 (wrap64 (x6_1 - 1)) s0_0 t180 t168 (x171001_1 ++ [(⟨t177, wrap64 ((wrap64 ((wrap64 (2 * t176)) - 1)) - t179)⟩ : S57)])) else (none)) = some (r1, r2, r3) := H
    have A18 := Yj A180
    clear A180
    by_cases c19 : x171001_1.length < 8796093022208
    ·rw [if_pos c19] at H
     have LMc19 := Yj c19
     clear c19
     obtain ⟨y181, hy181⟩ : ∃ y_ : List (S57), y_ = (x171001_1 ++ [(⟨t177, wrap64 ((wrap64 ((wrap64 (2 * t176)) - 1)) - t179)⟩ : S57)]) := ⟨_, rfl⟩
     replace H : (spec_l7Draw.l0 k1 (wrap64 (x6_1 - 1)) s0_0 t180 t168 y181) = some (r1, r2, r3) := by first | (rw [hy181]; with_reducible exact H) | (have H2_ := (Option.bind_some _ _).symm.trans H; rw [hy181]; with_reducible exact H2_) | (have H2_ := (Option.bind_some _ _).symm.trans H; with_reducible exact H2_) | with_reducible exact H | (rw [hy181]; exact H) | exact H
     have Ny181 := Yj hy181
     clear hy181
     have H' := Yj H
     clear H
     have hnb20 := NB170_167.out
     have hnc20 := NB167_170.out
     have hnb21 := NB170_0.out
     have hnc21 := NB0_170.out
     have hcz22_0 : wr.cell? ⟨gb170, 0, none⟩ = some (.int .i64 t168) := (Yd BK170.out 0).trans rfl
     have hcz22_1 : wr.cell? ⟨gb170, 1, none⟩ = some (u171001) := (Yd BK170.out 1).trans rfl
     have hfz22_0 := Ye BK170.out 0
     have hfz22_1 := Ye BK170.out 1
     obtain ⟨Ao23, co23, eo23⟩ := Kd.R_slice HO_171001.out
     subst eo23
     try go_wp2_with (first | ((with_reducible refine gate_callee (f := 38) rfl ?_); refine goesL_ (some 21) rfl rfl Try.func38 (by kernel_rfl) rfl #[.agg #[.int .i64 t168, .slice Ao23 x171001_1.length co23]] rfl (by (try simp only [List.map_toArray, List.map_cons, List.map_nil]); first | done | rfl | (simp only [List.length_drop, List.length_take]; rfl)) ?_; (with_reducible refine (spec_l7Nodes.calls t168 _ _ x171001_1 t176 _ ?side1 ?side2 A16.out).mono ?_); (case side1 => repeat (first | exact (Kd.R_reads' HO_171001.out).2.2 | (with_reducible refine Kd.C_alloc ?_ _) | (with_reducible refine Kd.C_drewN ?_ _) | (with_reducible refine Kd.C_drew ?_))); (case side2 => exact (Kd.R_reads' HO_171001.out).2.1); rintro e w24 ⟨rfl, hb⟩; refine ⟨_, rfl, ?_⟩; have n0_ := Yj (Kd.R_below (by (with_reducible repeat (first | apply Yl | apply Yk | apply Kd.R_drew)); exact HO_171001.out) hb); have n1_ := Yj (blk_below (g := gb167) (o := .cells #[.int .i64 0, .slice none 0 0] 28 (0, 0)) (by (with_reducible repeat (first | refine Ya ?_ _ | refine Yb ?_ | refine Yc ?_ _)); exact BK167.out) hb); have n2_ := Yj (blk_below (g := gb170) (o := .cells #[.int .i64 t168, .slice Ao23 x171001_1.length co23] 28 (0, 0)) (by (with_reducible repeat (first | refine Ya ?_ _ | refine Yb ?_ | refine Yc ?_ _)); exact BK170.out) hb); have n3_ := Yj (IsS71.below (by repeat (first | (with_reducible first | exact HI0.out | apply IsS71.alloc | apply IsS71.drewN | apply IsS71.drew | apply IsS71.set_1 | refine IsS71.far ?_ NB0_167.out _ | refine IsS71.far ?_ NB0_170.out _) | exact HI0.out)) hb); have n4_ := Yj (KeepBut.trans (by repeat (first | (with_reducible first | exact HK.out | apply KeepBut.set_ | apply keep_drewN | apply keep_drew | apply keep_alloc | refine keep_far ?_ GW167.out _ | refine keep_far ?_ GW170.out _) | exact HK.out)) (KeepBut.of_below hb g none) (.inl rfl)); have n5_ := Yj (below_step (by repeat (first | (with_reducible first | exact HB.out | apply Yf | apply Yg | apply Yh | refine Yi ?_ (IsS71.ge HI0.out) | refine Yi ?_ GE167.out | refine Yi ?_ GE170.out) | exact HB.out)) hb); clear HO_171001; clear BK167; clear BK170; clear HI0; clear HK; clear HB; have HO_171001 := n0_; have BK167 := n1_; have BK170 := n2_; have HI0 := n3_; have HK := n4_; have HB := n5_; clear n0_ n1_ n2_ n3_ n4_ n5_; (try clear hb); (try clear hb2); (try clear hk); (try clear hi)))
     have n0_ := Yj (Kd.R_drew HO_171001.out)
     have n1_ := Yj (Yb BK167.out)
     have n2_ := Yj (Yb BK170.out)
     have n3_ := Yj (IsS71.drew HI0.out)
     have n4_ := Yj (keep_drew HK.out)
     have n5_ := Yj (Yh HB.out)
     clear HO_171001
     clear BK167
     clear BK170
     clear HI0
     clear HK
     clear HB
     have HO_171001 := n0_
     have BK167 := n1_
     have BK170 := n2_
     have HI0 := n3_
     have HK := n4_
     have HB := n5_
     clear n0_ n1_ n2_ n3_ n4_ n5_
     refine start_ (n := 18) (S := fun w' => w'.cell? ⟨gb170, 0, none⟩ = some (.int .i64 t168) ∧ w'.cell? ⟨gb170, 1, none⟩ = some (.slice Ao23 x171001_1.length co23)) (ds := [17]) #[false, false, false, false, false, false, false, false, false, false, false, false, false, false, false, false, false, false] (by kernel_rfl) rfl rfl ⟨(Yd BK170.out 0).trans rfl, (Yd BK170.out 1).trans rfl⟩ (fun hHeld => ?_); refine with_tabW spec_l7Draw.tab6 spec_l7Draw.bits6 (fun HT_ HW_ => ?_)
     generalize w24.drew = w25 at HO_171001 BK167 BK170 HI0 HK HB hHeld ⊢
     refine pure_ (i := 0) (N := some 23) (v := ?_) (a' := ?_) #[true, false, false, false, false, false, false, false, false, false, false, false, false, false, false, false, false, false] rfl rfl (any_of HT_.out (by kernel_rfl)) (fun _ _ _ h => h) (Or.inl ⟨by rfl, ?_⟩) ?_ ?_
     rotate_left
     ·intro w'
      go_simp
      with_reducible rfl
     rotate_left
     ·simp only [Act.put, List.setIfInBounds_toArray, List.set_cons_zero, List.set_cons_succ, i64_w, i32_w]
      rfl
     refine pure_ (i := 2) (N := some 25) (v := ?_) (a' := ?_) #[true, false, true, false, false, false, false, false, false, false, false, false, false, false, false, false, false, false] rfl rfl (any_of HT_.out (by kernel_rfl)) (fun _ _ _ h => h) (Or.inl ⟨by rfl, ?_⟩) ?_ ?_
     rotate_left
     ·intro w'
      go_simp
      with_reducible rfl
     rotate_left
     ·simp only [Act.put, List.setIfInBounds_toArray, List.set_cons_zero, List.set_cons_succ, i64_w, i32_w]
      rfl
     refine pure_ (i := 3) (N := some 26) (v := ?_) (a' := ?_) #[true, false, true, true, false, false, false, false, false, false, false, false, false, false, false, false, false, false] rfl rfl (any_of HT_.out (by kernel_rfl)) (fun _ _ _ h => h) (Or.inl ⟨by rfl, ?_⟩) ?_ ?_
     rotate_left
     ·intro w'
      go_simp
      with_reducible rfl
     rotate_left
     ·simp only [Act.put, List.setIfInBounds_toArray, List.set_cons_zero, List.set_cons_succ, i64_w, i32_w]
      rfl
     refine pure_ (i := 5) (N := some 28) (v := ?_) (a' := ?_) #[true, false, true, true, false, true, false, false, false, false, false, false, false, false, false, false, false, false] rfl rfl (any_of HT_.out (by kernel_rfl)) (fun _ _ _ h => h) (Or.inl ⟨by rfl, ?_⟩) ?_ ?_
     rotate_left
     ·intro w'
      go_simp
      with_reducible rfl
     rotate_left
     ·simp only [Act.put, List.setIfInBounds_toArray, List.set_cons_zero, List.set_cons_succ, i64_w, i32_w]
      rfl
     refine pure_ (i := 6) (N := some 29) (v := ?_) (a' := ?_) #[true, false, true, true, false, true, true, false, false, false, false, false, false, false, false, false, false, false] rfl rfl (any_of HT_.out (by kernel_rfl)) (fun _ _ _ h => h) (Or.inl ⟨by rfl, ?_⟩) ?_ ?_
     rotate_left
     ·intro w'
      go_simp
      with_reducible rfl
     rotate_left
     ·simp only [Act.put, List.setIfInBounds_toArray, List.set_cons_zero, List.set_cons_succ, i64_w, i32_w]
      rfl
     refine pure_ (i := 7) (N := some 30) (v := ?_) (a' := ?_) #[true, false, true, true, false, true, true, true, false, false, false, false, false, false, false, false, false, false] rfl rfl (any_of HT_.out (by kernel_rfl)) (fun _ _ _ h => h) (Or.inl ⟨by rfl, ?_⟩) ?_ ?_
     rotate_left
     ·intro w'
      go_simp
      with_reducible rfl
     rotate_left
     ·simp only [Act.put, List.setIfInBounds_toArray, List.set_cons_zero, List.set_cons_succ, i64_w, i32_w]
      rfl
     refine pure_ (i := 8) (N := some 31) (v := ?_) (a' := ?_) #[true, false, true, true, false, true, true, true, true, false, false, false, false, false, false, false, false, false] rfl rfl (any_of HT_.out (by kernel_rfl)) (fun _ _ _ h => h) (Or.inl ⟨by rfl, ?_⟩) ?_ ?_
     rotate_left
     ·intro w'
      go_simp
      with_reducible rfl
     rotate_left
     ·simp only [Act.put, List.setIfInBounds_toArray, List.set_cons_zero, List.set_cons_succ, i64_w, i32_w]
      rfl
     refine pure_ (i := 9) (N := some 32) (v := ?_) (a' := ?_) #[true, false, true, true, false, true, true, true, true, true, false, false, false, false, false, false, false, false] rfl rfl (any_of HT_.out (by kernel_rfl)) (fun _ _ _ h => h) (Or.inl ⟨by rfl, ?_⟩) ?_ ?_
     rotate_left
     ·intro w'
      go_simp
      with_reducible rfl
     rotate_left
     ·simp only [Act.put, List.setIfInBounds_toArray, List.set_cons_zero, List.set_cons_succ, i64_w, i32_w]
      rfl
     refine pure_ (i := 10) (N := some 33) (v := ?_) (a' := ?_) #[true, false, true, true, false, true, true, true, true, true, true, false, false, false, false, false, false, false] rfl rfl (any_of HT_.out (by kernel_rfl)) (fun _ _ _ h => h) (Or.inl ⟨by rfl, ?_⟩) ?_ ?_
     rotate_left
     ·intro w'
      go_simp
      with_reducible rfl
     rotate_left
     ·simp only [Act.put, List.setIfInBounds_toArray, List.set_cons_zero, List.set_cons_succ, i64_w, i32_w]
      rfl
     refine take_ (i := 1) (N := some 24) (v := ?_) (a' := ?_) #[true, true, true, true, false, true, true, true, true, true, true, false, false, false, false, false, false, false] rfl rfl (take_ofW HT_.out HW_.out (by kernel_rfl)) (fun _ _ _ h => h) (Or.inl ⟨by rfl, ?_⟩) hHeld ?_ ?_
     rotate_left
     ·rintro w' ⟨s0, s1⟩
      go_simp
      with_reducible rfl
     rotate_left
     ·simp only [Act.put, List.setIfInBounds_toArray, List.set_cons_zero, List.set_cons_succ, i64_w, i32_w]
      rfl
     refine one_ (i := 4) (N := some 27) #[true, true, true, true, true, true, true, true, true, true, true, false, false, false, false, false, false, false] rfl rfl (one_of HT_.out (by kernel_rfl)) (by decide) (fun K hK => ?_)
     refine goes_ Try.func35 (by kernel_rfl) rfl #[.pointer (some ⟨g, 0, none⟩), .int .i64 (wrap64 (2 * t176))] (by rfl) rfl rfl (by (try simp only [List.map_toArray, List.map_cons, List.map_nil]); first | done | rfl | (simp only [List.length_drop, List.length_take]; rfl)) ?_
     with_reducible refine (spec_l40Rd_pick.calls k1 g s0_0 x1001_1 (wrap64 (2 * t176)) t177 t178 w0 _ ?side1 ?side2 A17.out).mono ?_
     (case side1 => repeat (first | (with_reducible first | exact HI0.out | apply IsS71.alloc | apply IsS71.drewN | apply IsS71.drew | apply IsS71.set_1 | refine IsS71.far ?_ NB0_167.out _ | refine IsS71.far ?_ NB0_170.out _) | exact HI0.out))
     (case side2 => repeat (first | (with_reducible first | exact HB.out | apply Yf | apply Yg | apply Yh | refine Yi ?_ (IsS71.ge HI0.out) | refine Yi ?_ GE167.out | refine Yi ?_ GE170.out) | exact HB.out))
     rintro e w26 ⟨rfl, hi, hb, hk⟩
     refine ⟨_, rfl, ?_⟩
     have n0_ := Yj (Kd.R_mono (Kd.R_keep (IsS71.apart (show IsS71 w0 _ g s0_0 x1001_1 from by repeat (first | (with_reducible first | exact HI0.out | apply IsS71.alloc | apply IsS71.drewN | apply IsS71.drew | apply IsS71.set_1 | refine IsS71.far ?_ NB0_167.out _ | refine IsS71.far ?_ NB0_170.out _) | exact HI0.out)) (by (with_reducible repeat (first | apply Yl | apply Yk | apply Kd.R_drew)); exact HO_171001.out) (by decide)) hk (fun _ h => h.2)) (fun _ h => h.1))
     have n1_ := Yj (KeepBut.blk hk (g' := gb167) (o := .cells #[.int .i64 0, .slice none 0 0] 28 (0, 0)) (by (with_reducible repeat (first | refine Ya ?_ _ | refine Yb ?_ | refine Yc ?_ _)); exact BK167.out) NB167_0.out (by simp))
     have n2_ := Yj (KeepBut.blk hk (g' := gb170) (o := .cells #[.int .i64 t168, .slice Ao23 x171001_1.length co23] 28 (0, 0)) (by (with_reducible repeat (first | refine Ya ?_ _ | refine Yb ?_ | refine Yc ?_ _)); exact BK170.out) NB170_0.out (by simp))
     have n3_ := Yj (KeepBut.trans (by repeat (first | (with_reducible first | exact HK.out | apply KeepBut.set_ | apply keep_drewN | apply keep_drew | apply keep_alloc | refine keep_far ?_ GW167.out _ | refine keep_far ?_ GW170.out _) | exact HK.out)) hk (.inl rfl))
     have n4_ := Yj (hb)
     have n5_ := Yj (hi)
     clear HO_171001
     clear BK167
     clear BK170
     clear HK
     clear HB
     clear HI0
     have HO_171001 := n0_
     have BK167 := n1_
     have BK170 := n2_
     have HK := n3_
     have HB := n4_
     have HI0 := n5_
     clear n0_ n1_ n2_ n3_ n4_ n5_
     (try clear hb)
     (try clear hb2)
     (try clear hk)
     (try clear hi)
     refine hK.out _ _ ⟨(Yd BK170.out 0).trans rfl, (Yd BK170.out 1).trans rfl⟩ (fun hHeld => ?_)
     clear hK K
     refine norm_ (a' := ?_) ?_ ?_
     rotate_left
     ·show Act.put _ (some 27) _ = _
      simp only [Act.put, List.setIfInBounds_toArray, List.set_cons_zero, List.set_cons_succ, i64_w, i32_w]
      rfl
     refine one_ (i := 11) (N := some 34) #[true, true, true, true, true, true, true, true, true, true, true, true, false, false, false, false, false, false] rfl rfl (one_of HT_.out (by kernel_rfl)) (by decide) (fun K hK => ?_)
     refine goes_ Try.func35 (by kernel_rfl) rfl #[.pointer (some ⟨g, 0, none⟩), .int .i64 (wrap64 (Int.tdiv (wrap64 ((wrap64 (2 * t176)) + 1)) 2))] (by rfl) rfl rfl (by (try simp only [List.map_toArray, List.map_cons, List.map_nil]); first | done | rfl | (simp only [List.length_drop, List.length_take]; rfl)) ?_
     with_reducible refine (spec_l40Rd_pick.calls k1 g s0_0 t178 (wrap64 (Int.tdiv (wrap64 ((wrap64 (2 * t176)) + 1)) 2)) t179 t180 w0 _ ?side1 ?side2 A18.out).mono ?_
     (case side1 => repeat (first | (with_reducible first | exact HI0.out | apply IsS71.alloc | apply IsS71.drewN | apply IsS71.drew | apply IsS71.set_1 | refine IsS71.far ?_ NB0_167.out _ | refine IsS71.far ?_ NB0_170.out _) | exact HI0.out))
     (case side2 => repeat (first | (with_reducible first | exact HB.out | apply Yf | apply Yg | apply Yh | refine Yi ?_ (IsS71.ge HI0.out) | refine Yi ?_ GE167.out | refine Yi ?_ GE170.out) | exact HB.out))
     rintro e w27 ⟨rfl, hi, hb, hk⟩
     refine ⟨_, rfl, ?_⟩
     have n0_ := Yj (Kd.R_mono (Kd.R_keep (IsS71.apart (show IsS71 w0 _ g s0_0 t178 from by repeat (first | (with_reducible first | exact HI0.out | apply IsS71.alloc | apply IsS71.drewN | apply IsS71.drew | apply IsS71.set_1 | refine IsS71.far ?_ NB0_167.out _ | refine IsS71.far ?_ NB0_170.out _) | exact HI0.out)) (by (with_reducible repeat (first | apply Yl | apply Yk | apply Kd.R_drew)); exact HO_171001.out) (by decide)) hk (fun _ h => h.2)) (fun _ h => h.1))
     have n1_ := Yj (KeepBut.blk hk (g' := gb167) (o := .cells #[.int .i64 0, .slice none 0 0] 28 (0, 0)) (by (with_reducible repeat (first | refine Ya ?_ _ | refine Yb ?_ | refine Yc ?_ _)); exact BK167.out) NB167_0.out (by simp))
     have n2_ := Yj (KeepBut.blk hk (g' := gb170) (o := .cells #[.int .i64 t168, .slice Ao23 x171001_1.length co23] 28 (0, 0)) (by (with_reducible repeat (first | refine Ya ?_ _ | refine Yb ?_ | refine Yc ?_ _)); exact BK170.out) NB170_0.out (by simp))
     have n3_ := Yj (KeepBut.trans (by repeat (first | (with_reducible first | exact HK.out | apply KeepBut.set_ | apply keep_drewN | apply keep_drew | apply keep_alloc | refine keep_far ?_ GW167.out _ | refine keep_far ?_ GW170.out _) | exact HK.out)) hk (.inl rfl))
     have n4_ := Yj (hb)
     have n5_ := Yj (hi)
     clear HO_171001
     clear BK167
     clear BK170
     clear HK
     clear HB
     clear HI0
     have HO_171001 := n0_
     have BK167 := n1_
     have BK170 := n2_
     have HK := n3_
     have HB := n4_
     have HI0 := n5_
     clear n0_ n1_ n2_ n3_ n4_ n5_
     (try clear hb)
     (try clear hb2)
     (try clear hk)
     (try clear hi)
     refine hK.out _ _ ⟨(Yd BK170.out 0).trans rfl, (Yd BK170.out 1).trans rfl⟩ (fun hHeld => ?_)
     clear hK K
     refine norm_ (a' := ?_) ?_ ?_
     rotate_left
     ·show Act.put _ (some 34) _ = _
      simp only [Act.put, List.setIfInBounds_toArray, List.set_cons_zero, List.set_cons_succ, i64_w, i32_w]
      rfl
     refine pure_ (i := 12) (N := some 35) (v := ?_) (a' := ?_) #[true, true, true, true, true, true, true, true, true, true, true, true, true, false, false, false, false, false] rfl rfl (any_of HT_.out (by kernel_rfl)) (fun _ _ _ h => h) (Or.inl ⟨by rfl, ?_⟩) ?_ ?_
     rotate_left
     ·intro w'
      go_simp
      with_reducible rfl
     rotate_left
     ·simp only [Act.put, List.setIfInBounds_toArray, List.set_cons_zero, List.set_cons_succ, i64_w, i32_w]
      rfl
     refine pure_ (i := 13) (N := some 36) (v := ?_) (a' := ?_) #[true, true, true, true, true, true, true, true, true, true, true, true, true, true, false, false, false, false] rfl rfl (any_of HT_.out (by kernel_rfl)) (fun _ _ _ h => h) (Or.inl ⟨by rfl, ?_⟩) ?_ ?_
     rotate_left
     ·intro w'
      go_simp
      with_reducible rfl
     rotate_left
     ·simp only [Act.put, List.setIfInBounds_toArray, List.set_cons_zero, List.set_cons_succ, i64_w, i32_w]
      rfl
     refine one_ (i := 14) (N := some 37) #[true, true, true, true, true, true, true, true, true, true, true, true, true, true, true, false, false, false] rfl rfl (one_of HT_.out (by kernel_rfl)) (by decide) (fun K hK => ?_)
     refine value_ (w1 := ?_) (v := ?_) (by rfl) rfl ?_ ?_
     rotate_left 2
     ·go_simp
      constructor
      ·rfl
      ·rfl
     refine hK.out _ _ ⟨(Yd (Yc BK170.out _) 0).trans rfl, (Yd (Yc BK170.out _) 1).trans rfl⟩ (fun hHeld => ?_)
     clear hK K
     refine norm_ (a' := ?_) ?_ ?_
     rotate_left
     ·show Act.put _ (some 37) _ = _
      simp only [Act.put, List.setIfInBounds_toArray, List.set_cons_zero, List.set_cons_succ, i64_w, i32_w]
      rfl
     refine one_ (i := 15) (N := some 38) #[true, true, true, true, true, true, true, true, true, true, true, true, true, true, true, true, false, false] rfl rfl (one_of HT_.out (by kernel_rfl)) (by decide) (fun K hK => ?_)
     refine Kd.R_append_step k57 w.heap.size (by rfl) (.tmp 24) (.tmp 37) 26 57 (.agg #[(.int .i64 0), (.int .i64 0)]) 16 rfl Try.underlying26 info57 rfl (by decide) (by omega) (.slice Ao23 x171001_1.length co23) x171001_1 (⟨t177, wrap64 ((wrap64 ((wrap64 (2 * t176)) - 1)) - t179)⟩ : S57) [.int .i64 t177, .int .i64 (wrap64 ((wrap64 ((wrap64 (2 * t176)) - 1)) - t179))] (fun _ => True) (fun _ => False) rfl rfl ?aP (fun _ hk => hk.elim) ?aF ?aO (Below.refl _ _) ?aS ?aL ?_
     (case aP => exact k57_mkM _ _ _ (⟨t177, wrap64 ((wrap64 ((wrap64 (2 * t176)) - 1)) - t179)⟩ : S57))
     (case aF => exact (fun _ _ => trivial))
     (case aO => exact (by (with_reducible repeat (first | apply Yl | apply Yk | apply Kd.R_drew)); exact HO_171001.out))
     (case aS => exact (keep_size (w := w) (g := g) (row := none) (by repeat (first | (with_reducible first | exact HK.out | apply KeepBut.set_ | apply keep_drewN | apply keep_drew | apply keep_alloc | refine keep_far ?_ GW167.out _ | refine keep_far ?_ GW170.out _) | exact HK.out))))
     (case aL => have := LMc19.out; omega)
     intro v182 w28 ho hb hg hat
     rw [← Ny181.out] at ho
     have n0_ := Yj (blk_grown (g := gb167) (o := .cells #[.int .i64 0, .slice none 0 0] 28 (0, 0)) (by (with_reducible repeat (first | refine Ya ?_ _ | refine Yb ?_ | refine Yc ?_ _)); exact BK167.out) hg (Kd.R_ne HO_171001.out BK167.out (by decide)))
     have n1_ := Yj (blk_grown (g := gb170) (o := .cells #[.int .i64 t168, .slice Ao23 x171001_1.length co23] 28 (0, 0)) (by (with_reducible repeat (first | refine Ya ?_ _ | refine Yb ?_ | refine Yc ?_ _)); exact BK170.out) hg (Kd.R_ne HO_171001.out BK170.out (by decide)))
     have n2_ := Yj (IsS71.grown (by repeat (first | (with_reducible first | exact HI0.out | apply IsS71.alloc | apply IsS71.drewN | apply IsS71.drew | apply IsS71.set_1 | refine IsS71.far ?_ NB0_167.out _ | refine IsS71.far ?_ NB0_170.out _) | exact HI0.out)) hg (IsS71.own_ne HI0.out HO_171001.out (by decide)))
     have n3_ := Yj (below_weaken (by repeat (first | (with_reducible first | exact HB.out | apply Yf | apply Yg | apply Yh | refine Yi ?_ (IsS71.ge HI0.out) | refine Yi ?_ GE167.out | refine Yi ?_ GE170.out) | exact HB.out)) HL.out hb)
     have n4_ := Yj (KeepBut.trans (by repeat (first | (with_reducible first | exact HK.out | apply KeepBut.set_ | apply keep_drewN | apply keep_drew | apply keep_alloc | refine keep_far ?_ GW167.out _ | refine keep_far ?_ GW170.out _) | exact HK.out)) (KeepBut.of_grown hg g) (Kd.R_base2 HO_171001.out))
     have n5_ := Yj (ho)
     clear BK167
     clear BK170
     clear HI0
     clear HB
     clear HK
     clear HO_171001
     have BK167 := n0_
     have BK170 := n1_
     have HI0 := n2_
     have HB := n3_
     have HK := n4_
     have HO183 := n5_
     clear n0_ n1_ n2_ n3_ n4_ n5_
     clear ho hb hg hat
     obtain ⟨Ao29, co29, eo29⟩ := Kd.R_slice HO183.out
     (first | subst eo29 | (injection eo29 with f1_ f2_ f3_; have f4_ := f1_.symm; have f5_ := f3_.symm; clear f1_ f2_ f3_; subst f4_; subst f5_))
     refine hK.out _ _ ⟨(Yd BK170.out 0).trans rfl, (Yd BK170.out 1).trans rfl⟩ (fun hHeld => ?_)
     clear hK K
     refine norm_ (a' := ?_) ?_ ?_
     rotate_left
     ·show Act.put _ (some 38) _ = _
      simp only [Act.put, List.setIfInBounds_toArray, List.set_cons_zero, List.set_cons_succ, i64_w, i32_w]
      rfl
     refine pure_ (i := 16) (N := some 39) (v := ?_) (a' := ?_) #[true, true, true, true, true, true, true, true, true, true, true, true, true, true, true, true, true, false] rfl rfl (any_of HT_.out (by kernel_rfl)) (fun _ _ _ h => h) (Or.inl ⟨by rfl, ?_⟩) ?_ ?_
     rotate_left
     ·intro w'
      go_simp
      with_reducible rfl
     rotate_left
     ·simp only [Act.put, List.setIfInBounds_toArray, List.set_cons_zero, List.set_cons_succ, i64_w, i32_w]
      rfl
     refine last_ (i := 17) (N := none) #[true, true, true, true, true, true, true, true, true, true, true, true, true, true, true, true, true, true] rfl rfl (one_of HT_.out (by kernel_rfl)) (by decide) (fun K hK => ?_)
     have hs30 : w28.cell? ⟨gb170, 1, none⟩ = some (.slice Ao23 x171001_1.length co23) := (Yd BK170.out 1).trans rfl
     have hfs30 := Ye BK170.out 1
     have hns30_0 := NB167_170.out
     have hms30_0 := NB170_167.out
     refine skip_ (w1 := ?_) (by rfl) rfl ?_ ?_
     rotate_left
     ·go_simp
      rfl
     refine hK.out _ _ ?_
     clear hK K
     refine done_ (done_of HT_.out (by kernel_rfl)) ?_
     try go_wp2
     go_roundg k1
     case measure => have := HK1.out; omega
     case rel => exact ⟨(wrap64 (x6_1 - 1)), (t180), (y181), (.slice Ao29 y181.length co29), (by first | rfl | (simp; done) | (simp [*]; done)), H', ⟨by have := HK1.out; omega⟩, ⟨by (with_reducible repeat (first | apply Yl | apply Yk | apply Kd.R_drew)); exact Kd.R_mono (Kd.R_far (p := ⟨gb170, 1, none⟩) (Kd.R_types HO183.out BK170.out (by decide)) (fun _ hk => hk.2) (.slice Ao29 y181.length co29)) (fun _ hk => trivial)⟩, ⟨by (with_reducible repeat (first | refine Ya ?_ _ | refine Yb ?_ | refine Yc ?_ _)); refine blk_far ?_ NB167_170.out _; (with_reducible repeat (first | refine Ya ?_ _ | refine Yb ?_ | refine Yc ?_ _)); exact BK167.out⟩, ⟨by (with_reducible repeat (first | refine Ya ?_ _ | refine Yb ?_ | refine Yc ?_ _)); refine blk_put (cs := #[.int .i64 t168, .slice Ao23 x171001_1.length co23]) ?_ 1 _ rfl; (with_reducible repeat (first | refine Ya ?_ _ | refine Yb ?_ | refine Yc ?_ _)); exact BK170.out⟩, ⟨by repeat (first | (with_reducible first | exact HI0.out | apply IsS71.alloc | apply IsS71.drewN | apply IsS71.drew | apply IsS71.set_1 | refine IsS71.far ?_ NB0_167.out _ | refine IsS71.far ?_ NB0_170.out _) | exact HI0.out)⟩, ⟨by repeat (first | (with_reducible first | exact HK.out | apply KeepBut.set_ | apply keep_drewN | apply keep_drew | apply keep_alloc | refine keep_far ?_ GW167.out _ | refine keep_far ?_ GW170.out _) | exact HK.out)⟩, ⟨by repeat (first | (with_reducible first | exact HB.out | apply Yf | apply Yg | apply Yh | refine Yi ?_ (IsS71.ge HI0.out) | refine Yi ?_ GE167.out | refine Yi ?_ GE170.out) | exact HB.out)⟩⟩
    ·rw [if_neg c19] at H
     exact absurd H (by simp)
   ·rw [if_neg c15] at H
    have c15b0 : decide (0 < x6_1) = false := decide_eq_false c15
    clear c15
    simp only [Option.some.injEq, Prod.mk.injEq] at H
    obtain ⟨rfl, rfl, rfl⟩ := H
    have hnb31 := NB170_167.out
    have hnc31 := NB167_170.out
    have hnb32 := NB170_0.out
    have hnc32 := NB0_170.out
    have hcz33_0 : wr.cell? ⟨gb170, 0, none⟩ = some (.int .i64 t168) := (Yd BK170.out 0).trans rfl
    have hcz33_1 : wr.cell? ⟨gb170, 1, none⟩ = some (u171001) := (Yd BK170.out 1).trans rfl
    have hfz33_0 := Ye BK170.out 0
    have hfz33_1 := Ye BK170.out 1
    have hnb34 := NB167_0.out
    have hnc34 := NB0_167.out
    have hcz35_0 : wr.cell? ⟨gb167, 0, none⟩ = some (.int .i64 0) := (Yd BK167.out 0).trans rfl
    have hcz35_1 : wr.cell? ⟨gb167, 1, none⟩ = some (.slice none 0 0) := (Yd BK167.out 1).trans rfl
    have hfz35_0 := Ye BK167.out 0
    have hfz35_1 := Ye BK167.out 1
    obtain ⟨Ao36, co36, eo36⟩ := Kd.R_slice HO_171001.out
    subst eo36
    go_wp2
    refine bodyPost_ret (results_cell_row rfl _ _ gb167 28 #[.int .i64 t168, .slice Ao36 x171001_1.length co36] (0, 0) _ rfl (by (with_reducible repeat (first | refine Ya ?_ _ | refine Yb ?_ | refine Yc ?_ _)); refine blk_put (cs := #[.int .i64 t168, .slice none 0 0]) ?_ 1 _ rfl; (with_reducible repeat (first | refine Ya ?_ _ | refine Yb ?_ | refine Yc ?_ _)); refine blk_put (cs := #[.int .i64 0, .slice none 0 0]) ?_ 0 _ rfl; (with_reducible repeat (first | refine Ya ?_ _ | refine Yb ?_ | refine Yc ?_ _)); exact BK167.out) Try.underlying28 rfl (by kernel_rfl)) rfl ?_
    exact ⟨_, by first | rfl | (simp [errW_none, errW_some] <;> rfl) | (simp [*, errW_none, errW_some] <;> rfl), by (with_reducible repeat (first | apply Yl | apply Yk | apply Kd.R_drew)); exact Kd.R_mono (Kd.R_far (p := ⟨gb167, 1, none⟩) (Kd.R_far (p := ⟨gb167, 0, none⟩) (Kd.R_types HO_171001.out BK167.out (by decide)) (fun _ hk => hk.2) (.int .i64 t168)) (fun _ hk => hk.2) (.slice Ao36 x171001_1.length co36)) (fun _ hk => trivial), by repeat (first | (with_reducible first | exact HI0.out | apply IsS71.alloc | apply IsS71.drewN | apply IsS71.drew | apply IsS71.set_1 | refine IsS71.far ?_ NB0_167.out _ | refine IsS71.far ?_ NB0_170.out _) | exact HI0.out), by repeat (first | (with_reducible first | exact HB.out | apply Yf | apply Yg | apply Yh | refine Yi ?_ (IsS71.ge HI0.out) | refine Yi ?_ GE167.out | refine Yi ?_ GE170.out) | exact HB.out), by repeat (first | (with_reducible first | exact HK.out | apply KeepBut.set_ | apply keep_drewN | apply keep_drew | apply keep_alloc | refine keep_far ?_ GW167.out _ | refine keep_far ?_ GW170.out _) | exact HK.out)⟩

end Go.Proofs.Ythphgkhmeobadaa.XFnAddAndOr
