/- Printed by a program of this session out of the translation: the Go functions that a law uses as plain Lean functions, with the proofs of their calls, or the law's row.
Conditions: those that each theorem states. -/
import Derived.Test.YthphgkhmeobadabXFnSameEdgesx0
import Derived.Test.YthphgkhmeobadabXFnSameEdgesx1
import Derived.Test.YthphgkhmeobadabXFnSameEdgesx2
namespace Go.Proofs.Ythphgkhmeobadab.XFnSameEdges
open Go.RowKit Go.Proofs.YthphgkhmeobadabW.PrintWords Go.Proofs.YthphgkhmeobadabW.PrintLast Go.Proofs.YthphgkhmeobadabW.PrintMore
attribute [local go_sem] max2_int min2_int max_two min_two max_three min_three max_four min_four   -- for this text's walks alone
set_option linter.unusedVariables false
set_option linter.unusedSimpArgs false

/-! ### spec_l7Any: function 32 -/
def spec_l7Any.j0 : Nat → Bool → List Int → Int → Int → List (S73) → Option (Int × (List (S73)) × Int)
 | 0, _, _, _, _, _ => none
 | k + 1, x21, x1000, x1001, x141000, x141001 => if x21 = true then ((spec_l40Rd_num.f k x1000 x1001 (([(-1), 13] : List Int))).bind fun bt148 => (some (bt148.1, x141001, bt148.2))) else ((spec_l40Rd_pick.f k x1000 x1001 (x141001.length : Int)).bind fun bt150 => ((spec_l40Rd_num.f k x1000 bt150.2 (([(-1), wrap64 (2 * (wrap64 ((wrap64 (1 + x141000)) + bt150.1)))] : List Int))).bind fun bt155 => (if 0 ≤ bt150.1 then (if bt150.1 < (x141001.length : Int) then (some (x141000, (x141001.set (bt150.1 : Int).toNat (⟨bt155.1, 0⟩ : S73)), bt155.2)) else (none)) else (none))))
def spec_l7Any.f (k : Nat) (s0_0 : List Int) (s0_1 : Int) (a1 : Int) : Option (Int × (List (S73)) × Int) := (spec_l7Draw.f k s0_0 s0_1 a1).bind fun bt135 => ((spec_l40Rd_pick.f k s0_0 bt135.2.2 14).bind fun bt141 => (if bt141.1 = 0 then ((spec_l40Rd_pick.f k s0_0 bt141.2 2).bind fun bt143 => (if bt143.1 = 0 then (spec_l7Any.j0 k true s0_0 bt143.2 bt135.1 bt135.2.1) else (spec_l7Any.j0 k ((bt135.2.1.length : Int) == 0) s0_0 bt143.2 bt135.1 bt135.2.1))) else (some (bt135.1, bt135.2.1, bt141.2))))
theorem spec_l7Any.mono_l : ∀ k, (∀ y0 y1 y2 y3 y4, LeO (spec_l7Any.j0 k y0 y1 y2 y3 y4) (spec_l7Any.j0 (k + 1) y0 y1 y2 y3 y4))
 | 0 => fun _ _ _ _ _ r h => by simp [spec_l7Any.j0] at h
 | k + 1 => by
  have ih0 := spec_l7Any.mono_l k
  ·intro y0 y1 y2 y3 y4
   unfold spec_l7Any.j0
   repeat' first
   | (with_reducible exact ih0 _ _ _ _ _)
   | (with_reducible exact spec_l40Rd_num.mono _ _ _ _)
   | (with_reducible exact spec_l40Rd_pick.mono _ _ _ _)
   | (with_reducible exact spec_l7Draw.mono _ _ _ _)
   | (with_reducible exact LeO.refl _)
   | (with_reducible exact LeO.none _)
   | (with_reducible refine LeO.ite ?_ ?_)
   | (with_reducible refine LeO.bind ?_ (fun _ => ?_))
   | exact ih0 _ _ _ _ _
   | exact spec_l40Rd_num.mono _ _ _ _
   | exact spec_l40Rd_pick.mono _ _ _ _
   | exact spec_l7Draw.mono _ _ _ _
   | exact LeO.none _
   | refine LeO.ite ?_ ?_
   | refine LeO.bind ?_ (fun _ => ?_)
theorem spec_l7Any.mono : ∀ a0 a1 a2 k, LeO (spec_l7Any.f k a0 a1 a2) (spec_l7Any.f (k + 1) a0 a1 a2) := by
 intro a0 a1 a2 k
 have ih0 := spec_l7Any.mono_l k
 unfold spec_l7Any.f
 repeat' first
   | (with_reducible exact ih0 _ _ _ _ _)
   | (with_reducible exact spec_l40Rd_num.mono _ _ _ _)
   | (with_reducible exact spec_l40Rd_pick.mono _ _ _ _)
   | (with_reducible exact spec_l7Draw.mono _ _ _ _)
   | (with_reducible exact LeO.refl _)
   | (with_reducible exact LeO.none _)
   | (with_reducible refine LeO.ite ?_ ?_)
   | (with_reducible refine LeO.bind ?_ (fun _ => ?_))
   | exact ih0 _ _ _ _ _
   | exact spec_l40Rd_num.mono _ _ _ _
   | exact spec_l40Rd_pick.mono _ _ _ _
   | exact spec_l7Draw.mono _ _ _ _
   | exact LeO.none _
   | refine LeO.ite ?_ ?_
   | refine LeO.bind ?_ (fun _ => ?_)
def spec_l7Any.T6 : Bool × List (List Nat × List Nat) := (true, [([], []), ([0], [0]), ([], []), ([], []), ([], []), ([4], [4]), ([5], [5]), ([], []), ([6, 7], [6, 7]), ([8], [8]), ([9], [9]), ([3, 10], [3, 10]), ([11], [11]), ([1, 2, 0, 1, 2, 3, 4, 5, 6, 7, 8, 9, 10, 11, 12], [1, 2]), ([13, 12, 11, 0, 1, 2, 3, 4, 5, 6, 7, 8, 9, 10, 11, 12], [12, 13])])
def spec_l7Any.B6 : List Nat := [0, 1, 0, 0, 0, 16, 48, 0, 240, 496, 1008, 2040, 4088, 8191, 16383]
theorem spec_l7Any.tab6 : rtab .any (opsOf Try.f32 6) = spec_l7Any.T6 := by kernel_rfl
theorem spec_l7Any.bits6 : waitsOk spec_l7Any.T6.2 spec_l7Any.B6 = true := by kernel_rfl
set_option maxHeartbeats 8000000 in
set_option maxRecDepth 100000 in
theorem spec_l7Any.calls (k : Nat) (g : Nat) (s0_0 : List Int) (s0_1 : Int) (a1 : Int) (r1 : Int) (r2 : List (S73)) (r3 : Int) (w0 w : World) (hI : IsS94 w0 w g s0_0 s0_1) (hB : Below w0.heap.size w0 w) (h : spec_l7Any.f k s0_0 s0_1 a1 = some (r1, r2, r3)) :
  Calls Try.prog 32 #[.pointer (some ⟨g, 0, none⟩), .int .i64 a1] w fun e w' => ∃ v1_ : Value, e = .returned (.agg #[.int .i64 r1, v1_]) ∧ Kd.R k73 73 w' w.heap.size (fun _ => True) v1_ r2 ∧ IsS94 w0 w' g s0_0 r3 ∧ Below w0.heap.size w0 w' ∧ KeepBut w w' g none := by
 have hu36 := Try.underlying36
 have hu73 := Try.underlying73
 have HI0 := Yj hI
 have HK := Yj (KeepBut.refl w g none)
 have HL := Yj hB.size
 clear hI
 have HW0 := Yj hB.size
 have HB := Yj hB
 clear hB
 have H : ((spec_l7Draw.f k s0_0 s0_1 a1).bind fun bt135 => ((spec_l40Rd_pick.f k s0_0 bt135.2.2 14).bind fun bt141 => (if bt141.1 = 0 then ((spec_l40Rd_pick.f k s0_0 bt141.2 2).bind fun bt143 => (if bt143.1 = 0 then (spec_l7Any.j0 k true s0_0 bt143.2 bt135.1 bt135.2.1) else (spec_l7Any.j0 k ((bt135.2.1.length : Int) == 0) s0_0 bt143.2 bt135.1 bt135.2.1))) else (some (bt135.1, bt135.2.1, bt141.2))))) = some (r1, r2, r3) := h
 clear h
 replace H := Yk H
 obtain ⟨⟨t135, t136, t139⟩, A30, H⟩ := H
 replace H : ((spec_l40Rd_pick.f k s0_0 t139 14).bind fun bt141 => (if bt141.1 = 0 then ((spec_l40Rd_pick.f k s0_0 bt141.2 2).bind fun bt143 => (if bt143.1 = 0 then (spec_l7Any.j0 k true s0_0 bt143.2 t135 t136) else (spec_l7Any.j0 k ((t136.length : Int) == 0) s0_0 bt143.2 t135 t136))) else (some (t135, t136, bt141.2)))) = some (r1, r2, r3) := H
 have A3 := Yj A30
 clear A30
 replace H := Yk H
 obtain ⟨⟨t141, t142⟩, A40, H⟩ := H
 replace H : (if t141 = 0 then ((spec_l40Rd_pick.f k s0_0 t142 2).bind fun bt143 => (if bt143.1 = 0 then (spec_l7Any.j0 k true s0_0 bt143.2 t135 t136) else (spec_l7Any.j0 k ((t136.length : Int) == 0) s0_0 bt143.2 t135 t136))) else (some (t135, t136, t142))) = some (r1, r2, r3) := H
 have A4 := Yj A40
 clear A40
 by_cases c5 : t141 = 0
 ·rw [if_pos c5] at H
  have c5b0 : (t141 == 0) = true := beq_iff_eq.mpr c5
  have c5b1 : (t141 != 0) = false := bne_eq_false_iff_eq.mpr c5
  clear c5
  have HC6 := Yj H
  clear H
  go_enter Try.func32, Try.ntmps32
  go_upto_region 3 with (first | ((with_reducible refine gate_dst (N := 4) rfl ?_); (try (refine gate_guard (by rfl) ?_; dsimp only)); refine box_event ?hg (N := 4) ?hd (cs := #[.int .i64 0, .slice none 0 0]) (t := 36) ?hr ?_; (case hd => rfl); (case hg => rfl); (case hr => first | (go_simp; done) | (go_simp; rfl)); intro gb134 hg w7 hbox hb; have n0_ := Yj (IsS94.below (by repeat (first | (with_reducible first | exact HI0.out | apply IsS94.alloc | apply IsS94.drewN | apply IsS94.drew | apply IsS94.set_1) | exact HI0.out)) hb); have n1_ := Yj (KeepBut.trans (by repeat (first | (with_reducible first | exact HK.out | apply KeepBut.set_ | apply keep_drewN | apply keep_drew | apply keep_alloc) | exact HK.out)) (KeepBut.of_below hb g none) (.inl rfl)); have n2_ := Yj (below_step (by repeat (first | (with_reducible first | exact HB.out | apply Yf | apply Yg | apply Yh | refine Yi ?_ (IsS94.ge HI0.out)) | exact HB.out)) hb); have n3_ := Yj (hbox); have n4_ := Yj ((by rw [hg]; exact (keep_size (w := w) (g := g) (row := none) (by repeat (first | (with_reducible first | exact HK.out | apply KeepBut.set_ | apply keep_drewN | apply keep_drew | apply keep_alloc) | exact HK.out))) : w.heap.size ≤ gb134)); have n5_ := Yj ((Nat.le_trans HW0.out (by rw [hg]; exact (keep_size (w := w) (g := g) (row := none) (by repeat (first | (with_reducible first | exact HK.out | apply KeepBut.set_ | apply keep_drewN | apply keep_drew | apply keep_alloc) | exact HK.out))) : w.heap.size ≤ gb134) : w0.heap.size ≤ gb134)); have n6_ := Yj ((by rw [hg]; exact Nat.ne_of_lt (IsS94.lt (show IsS94 w0 _ g s0_0 s0_1 from by repeat (first | (with_reducible first | exact HI0.out | apply IsS94.alloc | apply IsS94.drewN | apply IsS94.drew | apply IsS94.set_1) | exact HI0.out))) : g ≠ gb134)); have n7_ := Yj ((by rw [hg]; exact Nat.ne_of_gt (IsS94.lt (show IsS94 w0 _ g s0_0 s0_1 from by repeat (first | (with_reducible first | exact HI0.out | apply IsS94.alloc | apply IsS94.drewN | apply IsS94.drew | apply IsS94.set_1) | exact HI0.out))) : gb134 ≠ g)); clear HI0; clear HK; clear HB; have HI0 := n0_; have HK := n1_; have HB := n2_; have BK134 := n3_; have GW134 := n4_; have GE134 := n5_; have NB0_134 := n6_; have NB134_0 := n7_; clear n0_ n1_ n2_ n3_ n4_ n5_ n6_ n7_; clear hb hbox hg) | ((with_reducible refine gate_callee (f := 66) rfl ?_); refine goesL_ (some 9) rfl rfl Try.func66 (by kernel_rfl) rfl #[.pointer (some ⟨g, 0, none⟩), .int .i64 a1] rfl (by (try simp only [List.map_toArray, List.map_cons, List.map_nil]); first | done | rfl | (simp only [List.length_drop, List.length_take]; rfl)) ?_; (with_reducible refine (spec_l7Draw.calls k g s0_0 s0_1 a1 t135 t136 t139 w0 _ ?side1 ?side2 A3.out).mono ?_); (case side1 => repeat (first | (with_reducible first | exact HI0.out | apply IsS94.alloc | apply IsS94.drewN | apply IsS94.drew | apply IsS94.set_1 | refine IsS94.far ?_ NB0_134.out _) | exact HI0.out)); (case side2 => repeat (first | (with_reducible first | exact HB.out | apply Yf | apply Yg | apply Yh | refine Yi ?_ (IsS94.ge HI0.out) | refine Yi ?_ GE134.out) | exact HB.out)); rintro e w8 ⟨v137, rfl, ho0, hi, hb, hk⟩; refine ⟨_, rfl, ?_⟩; have n0_ := Yj (KeepBut.blk hk (g' := gb134) (o := .cells #[.int .i64 0, .slice none 0 0] 36 (0, 0)) (by (with_reducible repeat (first | refine Ya ?_ _ | refine Yb ?_ | refine Yc ?_ _)); exact BK134.out) NB134_0.out (by simp)); have n1_ := Yj (Kd.R_lower ho0 (keep_size (w := w) (g := g) (row := none) (by repeat (first | (with_reducible first | exact HK.out | apply KeepBut.set_ | apply keep_drewN | apply keep_drew | apply keep_alloc | refine keep_far ?_ GW134.out _) | exact HK.out)))); have n2_ := Yj (KeepBut.trans (by repeat (first | (with_reducible first | exact HK.out | apply KeepBut.set_ | apply keep_drewN | apply keep_drew | apply keep_alloc | refine keep_far ?_ GW134.out _) | exact HK.out)) hk (.inl rfl)); have n3_ := Yj (hb); have n4_ := Yj (hi); clear BK134; clear HK; clear HB; clear HI0; have BK134 := n0_; have HO138 := n1_; have HK := n2_; have HB := n3_; have HI0 := n4_; clear n0_ n1_ n2_ n3_ n4_; (try clear hb); (try clear hb2); (try clear hk); (try clear hi); (try clear ho0)) | ((with_reducible refine gate_dst (N := 5) rfl ?_); (try (refine gate_guard (by rfl) ?_; dsimp only)); refine box_event ?hg (N := 5) ?hd (cs := #[.int .i64 0, .slice none 0 0]) (t := 36) ?hr ?_; (case hd => rfl); (case hg => rfl); (case hr => first | (go_simp; done) | (go_simp; rfl)); intro gb140 hg w9 hbox hb; have n0_ := Yj (Kd.R_below (by (with_reducible repeat (first | apply Kd.R_alloc | apply Kd.R_drewN | apply Kd.R_drew)); exact HO138.out) hb); have n1_ := Yj (IsS94.below (by repeat (first | (with_reducible first | exact HI0.out | apply IsS94.alloc | apply IsS94.drewN | apply IsS94.drew | apply IsS94.set_1 | refine IsS94.far ?_ NB0_134.out _) | exact HI0.out)) hb); have n2_ := Yj (blk_below (g := gb134) (o := .cells #[.int .i64 0, .slice none 0 0] 36 (0, 0)) (by (with_reducible repeat (first | refine Ya ?_ _ | refine Yb ?_ | refine Yc ?_ _)); exact BK134.out) hb); have n3_ := Yj (KeepBut.trans (by repeat (first | (with_reducible first | exact HK.out | apply KeepBut.set_ | apply keep_drewN | apply keep_drew | apply keep_alloc | refine keep_far ?_ GW134.out _) | exact HK.out)) (KeepBut.of_below hb g none) (.inl rfl)); have n4_ := Yj (below_step (by repeat (first | (with_reducible first | exact HB.out | apply Yf | apply Yg | apply Yh | refine Yi ?_ (IsS94.ge HI0.out) | refine Yi ?_ GE134.out) | exact HB.out)) hb); have n5_ := Yj (hbox); have n6_ := Yj ((by rw [hg]; exact (keep_size (w := w) (g := g) (row := none) (by repeat (first | (with_reducible first | exact HK.out | apply KeepBut.set_ | apply keep_drewN | apply keep_drew | apply keep_alloc | refine keep_far ?_ GW134.out _) | exact HK.out))) : w.heap.size ≤ gb140)); have n7_ := Yj ((Nat.le_trans HW0.out (by rw [hg]; exact (keep_size (w := w) (g := g) (row := none) (by repeat (first | (with_reducible first | exact HK.out | apply KeepBut.set_ | apply keep_drewN | apply keep_drew | apply keep_alloc | refine keep_far ?_ GW134.out _) | exact HK.out))) : w.heap.size ≤ gb140) : w0.heap.size ≤ gb140)); have n8_ := Yj ((by rw [hg]; exact Nat.ne_of_lt (blk_lt (g := gb134) (o := .cells #[.int .i64 0, .slice none 0 0] 36 (0, 0)) (by (with_reducible repeat (first | refine Ya ?_ _ | refine Yb ?_ | refine Yc ?_ _)); exact BK134.out)) : gb134 ≠ gb140)); have n9_ := Yj ((by rw [hg]; exact Nat.ne_of_gt (blk_lt (g := gb134) (o := .cells #[.int .i64 0, .slice none 0 0] 36 (0, 0)) (by (with_reducible repeat (first | refine Ya ?_ _ | refine Yb ?_ | refine Yc ?_ _)); exact BK134.out)) : gb140 ≠ gb134)); have n10_ := Yj ((by rw [hg]; exact Nat.ne_of_lt (IsS94.lt (show IsS94 w0 _ g s0_0 t139 from by repeat (first | (with_reducible first | exact HI0.out | apply IsS94.alloc | apply IsS94.drewN | apply IsS94.drew | apply IsS94.set_1 | refine IsS94.far ?_ NB0_134.out _) | exact HI0.out))) : g ≠ gb140)); have n11_ := Yj ((by rw [hg]; exact Nat.ne_of_gt (IsS94.lt (show IsS94 w0 _ g s0_0 t139 from by repeat (first | (with_reducible first | exact HI0.out | apply IsS94.alloc | apply IsS94.drewN | apply IsS94.drew | apply IsS94.set_1 | refine IsS94.far ?_ NB0_134.out _) | exact HI0.out))) : gb140 ≠ g)); clear HO138; clear HI0; clear BK134; clear HK; clear HB; have HO138 := n0_; have HI0 := n1_; have BK134 := n2_; have HK := n3_; have HB := n4_; have BK140 := n5_; have GW140 := n6_; have GE140 := n7_; have NB134_140 := n8_; have NB140_134 := n9_; have NB0_140 := n10_; have NB140_0 := n11_; clear n0_ n1_ n2_ n3_ n4_ n5_ n6_ n7_ n8_ n9_ n10_ n11_; clear hb hbox hg; have hnb10 := NB140_134.out; have hnc10 := NB134_140.out; have hnb11 := NB140_0.out; have hnc11 := NB0_140.out; have hcz12_0 : w9.cell? ⟨gb140, 0, none⟩ = some (.int .i64 0) := (Yd BK140.out 0).trans rfl; have hcz12_1 : w9.cell? ⟨gb140, 1, none⟩ = some (.slice none 0 0) := (Yd BK140.out 1).trans rfl; have hfz12_0 := Ye BK140.out 0; have hfz12_1 := Ye BK140.out 1; obtain ⟨Ao13, co13, eo13⟩ := Kd.R_slice HO138.out; subst eo13) | ((with_reducible refine gate_callee (f := 35) rfl ?_); refine goesL_ (some 11) rfl rfl Try.func35 (by kernel_rfl) rfl #[.pointer (some ⟨g, 0, none⟩), .int .i64 14] rfl (by (try simp only [List.map_toArray, List.map_cons, List.map_nil]); first | done | rfl | (simp only [List.length_drop, List.length_take]; rfl)) ?_; (with_reducible refine (spec_l40Rd_pick.calls k g s0_0 t139 14 t141 t142 w0 _ ?side1 ?side2 A4.out).mono ?_); (case side1 => repeat (first | (with_reducible first | exact HI0.out | apply IsS94.alloc | apply IsS94.drewN | apply IsS94.drew | apply IsS94.set_1 | refine IsS94.far ?_ NB0_134.out _ | refine IsS94.far ?_ NB0_140.out _) | exact HI0.out)); (case side2 => repeat (first | (with_reducible first | exact HB.out | apply Yf | apply Yg | apply Yh | refine Yi ?_ (IsS94.ge HI0.out) | refine Yi ?_ GE134.out | refine Yi ?_ GE140.out) | exact HB.out)); rintro e w14 ⟨rfl, hi, hb, hk⟩; refine ⟨_, rfl, ?_⟩; have n0_ := Yj (KeepBut.blk hk (g' := gb134) (o := .cells #[.int .i64 0, .slice none 0 0] 36 (0, 0)) (by (with_reducible repeat (first | refine Ya ?_ _ | refine Yb ?_ | refine Yc ?_ _)); refine blk_far ?_ NB134_140.out _; (with_reducible repeat (first | refine Ya ?_ _ | refine Yb ?_ | refine Yc ?_ _)); refine blk_far ?_ NB134_140.out _; (with_reducible repeat (first | refine Ya ?_ _ | refine Yb ?_ | refine Yc ?_ _)); exact BK134.out) NB134_0.out (by simp)); have n1_ := Yj (Kd.R_mono (Kd.R_keep (IsS94.apart (show IsS94 w0 _ g s0_0 t139 from by repeat (first | (with_reducible first | exact HI0.out | apply IsS94.alloc | apply IsS94.drewN | apply IsS94.drew | apply IsS94.set_1 | refine IsS94.far ?_ NB0_134.out _ | refine IsS94.far ?_ NB0_140.out _) | exact HI0.out)) (by (with_reducible repeat (first | apply Kd.R_alloc | apply Kd.R_drewN | apply Kd.R_drew)); exact (Kd.R_mono (Kd.R_far (p := ⟨gb140, 1, none⟩) (Kd.R_far (p := ⟨gb140, 0, none⟩) (Kd.R_types HO138.out BK140.out (by decide)) (fun _ hk => hk.2) (.int .i64 t135)) (fun _ hk => hk.2) (.slice Ao13 t136.length co13)) (fun _ h_ => h_.1))) (by decide)) hk (fun _ h => h.2)) (fun _ h => h.1)); have n2_ := Yj (KeepBut.blk hk (g' := gb140) (o := .cells #[.int .i64 t135, .slice Ao13 t136.length co13] 36 (0, 0)) (by (with_reducible repeat (first | refine Ya ?_ _ | refine Yb ?_ | refine Yc ?_ _)); refine blk_put (cs := #[.int .i64 t135, .slice none 0 0]) ?_ 1 _ rfl; (with_reducible repeat (first | refine Ya ?_ _ | refine Yb ?_ | refine Yc ?_ _)); refine blk_put (cs := #[.int .i64 0, .slice none 0 0]) ?_ 0 _ rfl; (with_reducible repeat (first | refine Ya ?_ _ | refine Yb ?_ | refine Yc ?_ _)); exact BK140.out) NB140_0.out (by simp)); have n3_ := Yj (KeepBut.trans (by repeat (first | (with_reducible first | exact HK.out | apply KeepBut.set_ | apply keep_drewN | apply keep_drew | apply keep_alloc | refine keep_far ?_ GW134.out _ | refine keep_far ?_ GW140.out _) | exact HK.out)) hk (.inl rfl)); have n4_ := Yj (hb); have n5_ := Yj (hi); clear BK134; clear HO138; clear BK140; clear HK; clear HB; clear HI0; have BK134 := n0_; have HO138 := n1_; have BK140 := n2_; have HK := n3_; have HB := n4_; have HI0 := n5_; clear n0_ n1_ n2_ n3_ n4_ n5_; (try clear hb); (try clear hb2); (try clear hk); (try clear hi)))
  (try simp only [Act.put, List.setIfInBounds_toArray, List.set_cons_zero, List.set_cons_succ])
  go_cut [21] (fun v21 wc => ∃ (kq : Nat) (x21_5 : Bool) (x1001_5 : Int), v21 = .bool x21_5 ∧ Aside0 (spec_l7Any.j0 kq x21_5 s0_0 x1001_5 t135 t136 = some (r1, r2, r3)) ∧ Aside0 (kq ≤ k) ∧ Aside0 (Kd.R k73 73 wc w.heap.size (fun _ => True) (.slice Ao13 t136.length co13) t136) ∧ Aside0 (wc.heap[gb134]? = some (.cells #[.int .i64 0, (.slice none 0 0)] 36 (0, 0))) ∧ Aside0 (wc.heap[gb140]? = some (.cells #[.int .i64 t135, (.slice Ao13 t136.length co13)] 36 (0, 0))) ∧ Aside0 (IsS94 w0 wc g s0_0 x1001_5) ∧ Aside0 (KeepBut w wc g none) ∧ Aside0 (Below w0.heap.size w0 wc))
  case first =>
   have H := HC6.out
   clear HC6
   replace H := Yk H
   obtain ⟨⟨t143, t144⟩, A150, H⟩ := H
   replace H : (if t143 = 0 then (spec_l7Any.j0 k true s0_0 t144 t135 t136) else (spec_l7Any.j0 k ((t136.length : Int) == 0) s0_0 t144 t135 t136)) = some (r1, r2, r3) := H
   have A15 := Yj A150
   clear A150
   by_cases c16 : t143 = 0
   ·rw [if_pos c16] at H
    have c16b0 : (t143 == 0) = true := beq_iff_eq.mpr c16
    have c16b1 : (t143 != 0) = false := bne_eq_false_iff_eq.mpr c16
    clear c16
    (first | rw [c16b0] | (simp only [i64_w, i32_w]; rw [c16b0]) | rw [c16b1] | simp only [c16b1] | skip)
    have H' := Yj H
    clear H
    go_wp2_with (first | ((with_reducible refine gate_callee (f := 35) rfl ?_); refine goesL_ (some 14) rfl rfl Try.func35 (by kernel_rfl) rfl #[.pointer (some ⟨g, 0, none⟩), .int .i64 2] rfl (by (try simp only [List.map_toArray, List.map_cons, List.map_nil]); first | done | rfl | (simp only [List.length_drop, List.length_take]; rfl)) ?_; (with_reducible refine (spec_l40Rd_pick.calls k g s0_0 t142 2 t143 t144 w0 _ ?side1 ?side2 A15.out).mono ?_); (case side1 => repeat (first | (with_reducible first | exact HI0.out | apply IsS94.alloc | apply IsS94.drewN | apply IsS94.drew | apply IsS94.set_1 | refine IsS94.far ?_ NB0_134.out _ | refine IsS94.far ?_ NB0_140.out _) | exact HI0.out)); (case side2 => repeat (first | (with_reducible first | exact HB.out | apply Yf | apply Yg | apply Yh | refine Yi ?_ (IsS94.ge HI0.out) | refine Yi ?_ GE134.out | refine Yi ?_ GE140.out) | exact HB.out)); rintro e w17 ⟨rfl, hi, hb, hk⟩; refine ⟨_, rfl, ?_⟩; have n0_ := Yj (KeepBut.blk hk (g' := gb134) (o := .cells #[.int .i64 0, .slice none 0 0] 36 (0, 0)) (by (with_reducible repeat (first | refine Ya ?_ _ | refine Yb ?_ | refine Yc ?_ _)); exact BK134.out) NB134_0.out (by simp)); have n1_ := Yj (Kd.R_mono (Kd.R_keep (IsS94.apart (show IsS94 w0 _ g s0_0 t142 from by repeat (first | (with_reducible first | exact HI0.out | apply IsS94.alloc | apply IsS94.drewN | apply IsS94.drew | apply IsS94.set_1 | refine IsS94.far ?_ NB0_134.out _ | refine IsS94.far ?_ NB0_140.out _) | exact HI0.out)) (by (with_reducible repeat (first | apply Kd.R_alloc | apply Kd.R_drewN | apply Kd.R_drew)); exact HO138.out) (by decide)) hk (fun _ h => h.2)) (fun _ h => h.1)); have n2_ := Yj (KeepBut.blk hk (g' := gb140) (o := .cells #[.int .i64 t135, .slice Ao13 t136.length co13] 36 (0, 0)) (by (with_reducible repeat (first | refine Ya ?_ _ | refine Yb ?_ | refine Yc ?_ _)); exact BK140.out) NB140_0.out (by simp)); have n3_ := Yj (KeepBut.trans (by repeat (first | (with_reducible first | exact HK.out | apply KeepBut.set_ | apply keep_drewN | apply keep_drew | apply keep_alloc | refine keep_far ?_ GW134.out _ | refine keep_far ?_ GW140.out _) | exact HK.out)) hk (.inl rfl)); have n4_ := Yj (hb); have n5_ := Yj (hi); clear BK134; clear HO138; clear BK140; clear HK; clear HB; clear HI0; have BK134 := n0_; have HO138 := n1_; have BK140 := n2_; have HK := n3_; have HB := n4_; have HI0 := n5_; clear n0_ n1_ n2_ n3_ n4_ n5_; (try clear hb); (try clear hb2); (try clear hk); (try clear hi)))
    go_meet
    case rel => exact ⟨_, (true), (t144), (by first | rfl | (simp; done) | (simp [*]; done)), H', ⟨by first | omega | exact Nat.le_refl _⟩, ⟨by (with_reducible repeat (first | apply Kd.R_alloc | apply Kd.R_drewN | apply Kd.R_drew)); exact HO138.out⟩, ⟨by (with_reducible repeat (first | refine Ya ?_ _ | refine Yb ?_ | refine Yc ?_ _)); exact BK134.out⟩, ⟨by (with_reducible repeat (first | refine Ya ?_ _ | refine Yb ?_ | refine Yc ?_ _)); exact BK140.out⟩, ⟨by repeat (first | (with_reducible first | exact HI0.out | apply IsS94.alloc | apply IsS94.drewN | apply IsS94.drew | apply IsS94.set_1 | refine IsS94.far ?_ NB0_134.out _ | refine IsS94.far ?_ NB0_140.out _) | exact HI0.out)⟩, ⟨by repeat (first | (with_reducible first | exact HK.out | apply KeepBut.set_ | apply keep_drewN | apply keep_drew | apply keep_alloc | refine keep_far ?_ GW134.out _ | refine keep_far ?_ GW140.out _) | exact HK.out)⟩, ⟨by repeat (first | (with_reducible first | exact HB.out | apply Yf | apply Yg | apply Yh | refine Yi ?_ (IsS94.ge HI0.out) | refine Yi ?_ GE134.out | refine Yi ?_ GE140.out) | exact HB.out)⟩⟩
   ·rw [if_neg c16] at H
    have c16b0 : (t143 == 0) = false := beq_eq_false_iff_ne.mpr c16
    have c16b1 : (t143 != 0) = true := bne_iff_ne.mpr c16
    (first | rw [c16b0] | (simp only [i64_w, i32_w]; rw [c16b0]) | rw [c16b1] | simp only [c16b1] | skip)
    have H' := Yj H
    clear H
    go_wp2_with (first | ((with_reducible refine gate_callee (f := 35) rfl ?_); refine goesL_ (some 14) rfl rfl Try.func35 (by kernel_rfl) rfl #[.pointer (some ⟨g, 0, none⟩), .int .i64 2] rfl (by (try simp only [List.map_toArray, List.map_cons, List.map_nil]); first | done | rfl | (simp only [List.length_drop, List.length_take]; rfl)) ?_; (with_reducible refine (spec_l40Rd_pick.calls k g s0_0 t142 2 t143 t144 w0 _ ?side1 ?side2 A15.out).mono ?_); (case side1 => repeat (first | (with_reducible first | exact HI0.out | apply IsS94.alloc | apply IsS94.drewN | apply IsS94.drew | apply IsS94.set_1 | refine IsS94.far ?_ NB0_134.out _ | refine IsS94.far ?_ NB0_140.out _) | exact HI0.out)); (case side2 => repeat (first | (with_reducible first | exact HB.out | apply Yf | apply Yg | apply Yh | refine Yi ?_ (IsS94.ge HI0.out) | refine Yi ?_ GE134.out | refine Yi ?_ GE140.out) | exact HB.out)); rintro e w18 ⟨rfl, hi, hb, hk⟩; refine ⟨_, rfl, ?_⟩; have n0_ := Yj (KeepBut.blk hk (g' := gb134) (o := .cells #[.int .i64 0, .slice none 0 0] 36 (0, 0)) (by (with_reducible repeat (first | refine Ya ?_ _ | refine Yb ?_ | refine Yc ?_ _)); exact BK134.out) NB134_0.out (by simp)); have n1_ := Yj (Kd.R_mono (Kd.R_keep (IsS94.apart (show IsS94 w0 _ g s0_0 t142 from by repeat (first | (with_reducible first | exact HI0.out | apply IsS94.alloc | apply IsS94.drewN | apply IsS94.drew | apply IsS94.set_1 | refine IsS94.far ?_ NB0_134.out _ | refine IsS94.far ?_ NB0_140.out _) | exact HI0.out)) (by (with_reducible repeat (first | apply Kd.R_alloc | apply Kd.R_drewN | apply Kd.R_drew)); exact HO138.out) (by decide)) hk (fun _ h => h.2)) (fun _ h => h.1)); have n2_ := Yj (KeepBut.blk hk (g' := gb140) (o := .cells #[.int .i64 t135, .slice Ao13 t136.length co13] 36 (0, 0)) (by (with_reducible repeat (first | refine Ya ?_ _ | refine Yb ?_ | refine Yc ?_ _)); exact BK140.out) NB140_0.out (by simp)); have n3_ := Yj (KeepBut.trans (by repeat (first | (with_reducible first | exact HK.out | apply KeepBut.set_ | apply keep_drewN | apply keep_drew | apply keep_alloc | refine keep_far ?_ GW134.out _ | refine keep_far ?_ GW140.out _) | exact HK.out)) hk (.inl rfl)); have n4_ := Yj (hb); have n5_ := Yj (hi); clear BK134; clear HO138; clear BK140; clear HK; clear HB; clear HI0; have BK134 := n0_; have HO138 := n1_; have BK140 := n2_; have HK := n3_; have HB := n4_; have HI0 := n5_; clear n0_ n1_ n2_ n3_ n4_ n5_; (try clear hb); (try clear hb2); (try clear hk); (try clear hi); have hnb19 := NB140_134.out; have hnc19 := NB134_140.out; have hnb20 := NB140_0.out; have hnc20 := NB0_140.out; have hcz21_0 : w18.cell? ⟨gb140, 0, none⟩ = some (.int .i64 t135) := (Yd BK140.out 0).trans rfl; have hcz21_1 : w18.cell? ⟨gb140, 1, none⟩ = some (.slice Ao13 t136.length co13) := (Yd BK140.out 1).trans rfl; have hfz21_0 := Ye BK140.out 0; have hfz21_1 := Ye BK140.out 1))
    go_meet
    case rel => exact ⟨_, (((t136.length : Int) == 0)), (t144), (by first | rfl | (simp; done) | (simp [*]; done)), H', ⟨by first | omega | exact Nat.le_refl _⟩, ⟨by (with_reducible repeat (first | apply Kd.R_alloc | apply Kd.R_drewN | apply Kd.R_drew)); exact HO138.out⟩, ⟨by (with_reducible repeat (first | refine Ya ?_ _ | refine Yb ?_ | refine Yc ?_ _)); exact BK134.out⟩, ⟨by (with_reducible repeat (first | refine Ya ?_ _ | refine Yb ?_ | refine Yc ?_ _)); exact BK140.out⟩, ⟨by repeat (first | (with_reducible first | exact HI0.out | apply IsS94.alloc | apply IsS94.drewN | apply IsS94.drew | apply IsS94.set_1 | refine IsS94.far ?_ NB0_134.out _ | refine IsS94.far ?_ NB0_140.out _) | exact HI0.out)⟩, ⟨by repeat (first | (with_reducible first | exact HK.out | apply KeepBut.set_ | apply keep_drewN | apply keep_drew | apply keep_alloc | refine keep_far ?_ GW134.out _ | refine keep_far ?_ GW140.out _) | exact HK.out)⟩, ⟨by repeat (first | (with_reducible first | exact HB.out | apply Yf | apply Yg | apply Yh | refine Yi ?_ (IsS94.ge HI0.out) | refine Yi ?_ GE134.out | refine Yi ?_ GE140.out) | exact HB.out)⟩⟩
  case rest =>
   clear HC6
   try clear c1
   try clear c2
   try clear p2
   try clear c3
   try clear c5
   try clear c5b0
   try clear c5b1
   try clear c6
   try clear c10
   try clear c11
   try clear c16
   try clear c16b0
   try clear c16b1
   try clear c19
   try clear c20
   try clear hcz12_0
   try clear hcz12_1
   try clear hcz21_0
   try clear hcz21_1
   try clear hfz12_0
   try clear hfz12_1
   try clear hfz21_0
   try clear hfz21_1
   obtain ⟨kq, x21_5, x1001_5, rfl, HA, HJ5, HO_141001, BK134, BK140, HI0, HK, HB⟩ := hcut
   cases kq with
   | zero => exact absurd HA.out (by simp [spec_l7Any.j0])
   | succ kj5 =>
    have H := HA.out
    clear HA
    simp only [spec_l7Any.j0] at H
    by_cases c22 : x21_5 = true
    ·subst c22
     have H1 : ((spec_l40Rd_num.f kj5 s0_0 x1001_5 (([(-1), 13] : List Int))).bind fun bt148 => (some (bt148.1, t136, bt148.2))) = some (r1, r2, r3) := by rw [if_pos rfl] at H; exact H
     clear H
     have H := H1
     clear H1
     obtain ⟨y145, hy145⟩ : ∃ y_ : List Int, y_ = (([(-1), 13] : List Int)) := ⟨_, rfl⟩
     replace H : ((spec_l40Rd_num.f kj5 s0_0 x1001_5 y145).bind fun bt148 => (some (bt148.1, t136, bt148.2))) = some (r1, r2, r3) := by first | (rw [hy145]; with_reducible exact H) | (have H2_ := (Option.bind_some _ _).symm.trans H; rw [hy145]; with_reducible exact H2_) | (have H2_ := (Option.bind_some _ _).symm.trans H; with_reducible exact H2_) | with_reducible exact H | (rw [hy145]; exact H) | exact H
     have Ny145 := Yj hy145
     clear hy145
     replace H := Yk H
     obtain ⟨⟨t148, t149⟩, A230, H⟩ := H
     replace H : (some (t148, t136, t149)) = some (r1, r2, r3) := H
     have A23 := Yj A230
     clear A230
     simp only [Option.some.injEq, Prod.mk.injEq] at H
     obtain ⟨rfl, rfl, rfl⟩ := H
     go_wp2_with (first | ((with_reducible refine gate_dst (N := 23) rfl ?_); (try (refine gate_guard (by rfl) ?_; dsimp only)); refine Kd.R_lit (Kd.int .i64) _ 3 ?hg (N := 23) ?hd (xs := ([(-1), 13] : List Int)) (inner := [.int .i64 (-1), .int .i64 13]) (ok := fun _ => True) (okp := fun _ => True) ?hr ?hp (fun _ hk => hk) trivial (Below.refl _ _) (Nat.le_refl _) (by simp) ?_; (case hd => rfl); (case hg => rfl); (case hr => first | (go_simp; done) | (go_simp; rfl)); (case hp => exact (Reps.one (show Kd.M (Kd.int .i64) _ _ _ (-1) [.int .i64 (-1)] from rfl) (Reps.one (show Kd.M (Kd.int .i64) _ _ _ 13 [.int .i64 13] from rfl) (Reps.none _ _)))); intro v146 w24 ho25 hb hg_ hnew_; clear hg_ hnew_; (first | rw [← Ny145.out] at ho25 | (simp only [Int.reduceToNat] at ho25; rw [← Ny145.out] at ho25)); have n0_ := Yj (Kd.R_below (by (with_reducible repeat (first | apply Kd.R_alloc | apply Kd.R_drewN | apply Kd.R_drew)); exact HO_141001.out) hb); have n1_ := Yj (Kd.R_lower ho25 (keep_size (w := w) (g := g) (row := none) (by repeat (first | (with_reducible first | exact HK.out | apply KeepBut.set_ | apply keep_drewN | apply keep_drew | apply keep_alloc | refine keep_far ?_ GW134.out _ | refine keep_far ?_ GW140.out _) | exact HK.out)))); have n2_ := Yj (blk_below (g := gb134) (o := .cells #[.int .i64 0, .slice none 0 0] 36 (0, 0)) (by (with_reducible repeat (first | refine Ya ?_ _ | refine Yb ?_ | refine Yc ?_ _)); exact BK134.out) hb); have n3_ := Yj (blk_below (g := gb140) (o := .cells #[.int .i64 t135, .slice Ao13 t136.length co13] 36 (0, 0)) (by (with_reducible repeat (first | refine Ya ?_ _ | refine Yb ?_ | refine Yc ?_ _)); exact BK140.out) hb); have n4_ := Yj (IsS94.below (by repeat (first | (with_reducible first | exact HI0.out | apply IsS94.alloc | apply IsS94.drewN | apply IsS94.drew | apply IsS94.set_1 | refine IsS94.far ?_ NB0_134.out _ | refine IsS94.far ?_ NB0_140.out _) | exact HI0.out)) hb); have n5_ := Yj (KeepBut.trans (by repeat (first | (with_reducible first | exact HK.out | apply KeepBut.set_ | apply keep_drewN | apply keep_drew | apply keep_alloc | refine keep_far ?_ GW134.out _ | refine keep_far ?_ GW140.out _) | exact HK.out)) (KeepBut.of_below hb g none) (.inl rfl)); have n6_ := Yj (below_step (by repeat (first | (with_reducible first | exact HB.out | apply Yf | apply Yg | apply Yh | refine Yi ?_ (IsS94.ge HI0.out) | refine Yi ?_ GE134.out | refine Yi ?_ GE140.out) | exact HB.out)) hb); clear HO_141001; clear BK134; clear BK140; clear HI0; clear HK; clear HB; have HO_141001 := n0_; have HO147 := n1_; have BK134 := n2_; have BK140 := n3_; have HI0 := n4_; have HK := n5_; have HB := n6_; clear n0_ n1_ n2_ n3_ n4_ n5_ n6_; clear hb ho25; obtain ⟨Ao26, co26, eo26⟩ := Kd.R_slice HO147.out; subst eo26) | ((with_reducible refine gate_callee (f := 67) rfl ?_); refine goesL_ (some 24) rfl rfl Try.func67 (by kernel_rfl) rfl #[.pointer (some ⟨g, 0, none⟩), .slice Ao26 y145.length co26] rfl (by (try simp only [List.map_toArray, List.map_cons, List.map_nil]); first | done | rfl | (simp only [List.length_drop, List.length_take]; rfl)) ?_; (with_reducible refine (spec_l40Rd_num.calls kj5 g s0_0 x1001_5 _ _ y145 t148 t149 w0 _ ?side1 ?side2 ?side3 ?side4 ?side5 A23.out).mono ?_); (case side1 => repeat (first | (with_reducible first | exact HI0.out | apply IsS94.alloc | apply IsS94.drewN | apply IsS94.drew | apply IsS94.set_1 | refine IsS94.far ?_ NB0_134.out _ | refine IsS94.far ?_ NB0_140.out _) | exact HI0.out)); (case side2 => repeat (first | (with_reducible first | exact HB.out | apply Yf | apply Yg | apply Yh | refine Yi ?_ (IsS94.ge HI0.out) | refine Yi ?_ GE134.out | refine Yi ?_ GE140.out) | exact HB.out)); (case side3 => repeat (first | exact (Kd.R_reads' HO147.out).2.2 | (with_reducible refine Kd.C_alloc ?_ _) | (with_reducible refine Kd.C_drewN ?_ _) | (with_reducible refine Kd.C_drew ?_))); (case side4 => exact (Kd.R_reads' HO147.out).2.1); (case side5 => exact far_slice (IsS94.own_ne HI0.out HO147.out (by decide))); rintro e w27 ⟨rfl, hi, hb, hk⟩; refine ⟨_, rfl, ?_⟩; have n0_ := Yj (Kd.R_mono (Kd.R_keep (IsS94.apart (show IsS94 w0 _ g s0_0 x1001_5 from by repeat (first | (with_reducible first | exact HI0.out | apply IsS94.alloc | apply IsS94.drewN | apply IsS94.drew | apply IsS94.set_1 | refine IsS94.far ?_ NB0_134.out _ | refine IsS94.far ?_ NB0_140.out _) | exact HI0.out)) (by (with_reducible repeat (first | apply Kd.R_alloc | apply Kd.R_drewN | apply Kd.R_drew)); exact HO_141001.out) (by decide)) hk (fun _ h => h.2)) (fun _ h => h.1)); have n1_ := Yj (KeepBut.blk hk (g' := gb134) (o := .cells #[.int .i64 0, .slice none 0 0] 36 (0, 0)) (by (with_reducible repeat (first | refine Ya ?_ _ | refine Yb ?_ | refine Yc ?_ _)); exact BK134.out) NB134_0.out (by simp)); have n2_ := Yj (KeepBut.blk hk (g' := gb140) (o := .cells #[.int .i64 t135, .slice Ao13 t136.length co13] 36 (0, 0)) (by (with_reducible repeat (first | refine Ya ?_ _ | refine Yb ?_ | refine Yc ?_ _)); exact BK140.out) NB140_0.out (by simp)); have n3_ := Yj (Kd.R_mono (Kd.R_keep (IsS94.apart (show IsS94 w0 _ g s0_0 x1001_5 from by repeat (first | (with_reducible first | exact HI0.out | apply IsS94.alloc | apply IsS94.drewN | apply IsS94.drew | apply IsS94.set_1 | refine IsS94.far ?_ NB0_134.out _ | refine IsS94.far ?_ NB0_140.out _) | exact HI0.out)) (by (with_reducible repeat (first | apply Kd.R_alloc | apply Kd.R_drewN | apply Kd.R_drew)); exact HO147.out) (by decide)) hk (fun _ h => h.2)) (fun _ h => h.1)); have n4_ := Yj (KeepBut.trans (by repeat (first | (with_reducible first | exact HK.out | apply KeepBut.set_ | apply keep_drewN | apply keep_drew | apply keep_alloc | refine keep_far ?_ GW134.out _ | refine keep_far ?_ GW140.out _) | exact HK.out)) hk (.inl rfl)); have n5_ := Yj (hb); have n6_ := Yj (hi); clear HO_141001; clear BK134; clear BK140; clear HO147; clear HK; clear HB; clear HI0; have HO_141001 := n0_; have BK134 := n1_; have BK140 := n2_; have HO147 := n3_; have HK := n4_; have HB := n5_; have HI0 := n6_; clear n0_ n1_ n2_ n3_ n4_ n5_ n6_; (try clear hb); (try clear hb2); (try clear hk); (try clear hi); have hnb28 := NB140_134.out; have hnc28 := NB134_140.out; have hnb29 := NB140_0.out; have hnc29 := NB0_140.out; have hcz30_0 : w27.cell? ⟨gb140, 0, none⟩ = some (.int .i64 t135) := (Yd BK140.out 0).trans rfl; have hcz30_1 : w27.cell? ⟨gb140, 1, none⟩ = some (.slice Ao13 t136.length co13) := (Yd BK140.out 1).trans rfl; have hfz30_0 := Ye BK140.out 0; have hfz30_1 := Ye BK140.out 1; have hnb31 := NB134_0.out; have hnc31 := NB0_134.out; have hcz32_0 : w27.cell? ⟨gb134, 0, none⟩ = some (.int .i64 0) := (Yd BK134.out 0).trans rfl; have hcz32_1 : w27.cell? ⟨gb134, 1, none⟩ = some (.slice none 0 0) := (Yd BK134.out 1).trans rfl; have hfz32_0 := Ye BK134.out 0; have hfz32_1 := Ye BK134.out 1))
     refine bodyPost_ret (results_cell_row rfl _ _ gb134 36 #[.int .i64 t148, .slice Ao13 t136.length co13] (0, 0) _ rfl (by (with_reducible repeat (first | refine Ya ?_ _ | refine Yb ?_ | refine Yc ?_ _)); refine blk_put (cs := #[.int .i64 t148, .slice none 0 0]) ?_ 1 _ rfl; (with_reducible repeat (first | refine Ya ?_ _ | refine Yb ?_ | refine Yc ?_ _)); refine blk_put (cs := #[.int .i64 0, .slice none 0 0]) ?_ 0 _ rfl; (with_reducible repeat (first | refine Ya ?_ _ | refine Yb ?_ | refine Yc ?_ _)); refine blk_far ?_ NB134_140.out _; (with_reducible repeat (first | refine Ya ?_ _ | refine Yb ?_ | refine Yc ?_ _)); exact BK134.out) Try.underlying36 rfl (by kernel_rfl)) rfl ?_
     exact ⟨_, by first | rfl | (simp [errW_none, errW_some] <;> rfl) | (simp [*, errW_none, errW_some] <;> rfl), by (with_reducible repeat (first | apply Kd.R_alloc | apply Kd.R_drewN | apply Kd.R_drew)); exact Kd.R_mono (Kd.R_far (p := ⟨gb134, 1, none⟩) (Kd.R_far (p := ⟨gb134, 0, none⟩) (Kd.R_far (p := ⟨gb140, 0, none⟩) (Kd.R_types (Kd.R_types HO_141001.out BK140.out (by decide)) BK134.out (by decide)) (fun _ hk => hk.1.2) (.int .i64 t148)) (fun _ hk => hk.2) (.int .i64 t148)) (fun _ hk => hk.2) (.slice Ao13 t136.length co13)) (fun _ hk => trivial), by repeat (first | (with_reducible first | exact HI0.out | apply IsS94.alloc | apply IsS94.drewN | apply IsS94.drew | apply IsS94.set_1 | refine IsS94.far ?_ NB0_134.out _ | refine IsS94.far ?_ NB0_140.out _) | exact HI0.out), by repeat (first | (with_reducible first | exact HB.out | apply Yf | apply Yg | apply Yh | refine Yi ?_ (IsS94.ge HI0.out) | refine Yi ?_ GE134.out | refine Yi ?_ GE140.out) | exact HB.out), by repeat (first | (with_reducible first | exact HK.out | apply KeepBut.set_ | apply keep_drewN | apply keep_drew | apply keep_alloc | refine keep_far ?_ GW134.out _ | refine keep_far ?_ GW140.out _) | exact HK.out)⟩
    ·replace c22 := Bool.eq_false_iff.mpr c22
     subst c22
     have H1 : ((spec_l40Rd_pick.f kj5 s0_0 x1001_5 (t136.length : Int)).bind fun bt150 => ((spec_l40Rd_num.f kj5 s0_0 bt150.2 (([(-1), wrap64 (2 * (wrap64 ((wrap64 (1 + t135)) + bt150.1)))] : List Int))).bind fun bt155 => (if 0 ≤ bt150.1 then (if bt150.1 < (t136.length : Int) then (some (t135, (t136.set (bt150.1 : Int).toNat (⟨bt155.1, 0⟩ : S73)), bt155.2)) else (none)) else (none)))) = some (r1, r2, r3) := by rw [if_neg (show ¬ (false = true) by decide)] at H; exact H
     clear H
     have H := H1
     clear H1
     replace H := Yk H
     obtain ⟨⟨t150, t151⟩, A330, H⟩ := H
     replace H : ((spec_l40Rd_num.f kj5 s0_0 t151 (([(-1), wrap64 (2 * (wrap64 ((wrap64 (1 + t135)) + t150)))] : List Int))).bind fun bt155 => (if 0 ≤ t150 then (if t150 < (t136.length : Int) then (some (t135, (t136.set (t150 : Int).toNat (⟨bt155.1, 0⟩ : S73)), bt155.2)) else (none)) else (none))) = some (r1, r2, r3) := H
     have A33 := Yj A330
     clear A330
     obtain ⟨y152, hy152⟩ : ∃ y_ : List Int, y_ = (([(-1), wrap64 (2 * (wrap64 ((wrap64 (1 + t135)) + t150)))] : List Int)) := ⟨_, rfl⟩
     replace H : ((spec_l40Rd_num.f kj5 s0_0 t151 y152).bind fun bt155 => (if 0 ≤ t150 then (if t150 < (t136.length : Int) then (some (t135, (t136.set (t150 : Int).toNat (⟨bt155.1, 0⟩ : S73)), bt155.2)) else (none)) else (none))) = some (r1, r2, r3) := by first | (rw [hy152]; with_reducible exact H) | (have H2_ := (Option.bind_some _ _).symm.trans H; rw [hy152]; with_reducible exact H2_) | (have H2_ := (Option.bind_some _ _).symm.trans H; with_reducible exact H2_) | with_reducible exact H | (rw [hy152]; exact H) | exact H
     have Ny152 := Yj hy152
     clear hy152
     replace H := Yk H
     obtain ⟨⟨t155, t156⟩, A340, H⟩ := H
     replace H : (if 0 ≤ t150 then (if t150 < (t136.length : Int) then (some (t135, (t136.set (t150 : Int).toNat (⟨t155, 0⟩ : S73)), t156)) else (none)) else (none)) = some (r1, r2, r3) := H
     have A34 := Yj A340
     clear A340
     by_cases c35 : 0 ≤ t150
     ·rw [if_pos c35] at H
      have c35b0 : decide (0 ≤ t150) = true := decide_eq_true c35
      clear c35
      by_cases c36 : t150 < (t136.length : Int)
      ·rw [if_pos c36] at H
       have c36b0 : decide (t150 < (t136.length : Int)) = true := decide_eq_true c36
       clear c36
       obtain ⟨y157, hy157⟩ : ∃ y_ : List (S73), y_ = (t136.set (t150 : Int).toNat (⟨t155, 0⟩ : S73)) := ⟨_, rfl⟩
       replace H : (some (t135, y157, t156)) = some (r1, r2, r3) := by first | (rw [hy157]; with_reducible exact H) | (have H2_ := (Option.bind_some _ _).symm.trans H; rw [hy157]; with_reducible exact H2_) | (have H2_ := (Option.bind_some _ _).symm.trans H; with_reducible exact H2_) | with_reducible exact H | (rw [hy157]; exact H) | exact H
       have Ny157 := Yj hy157
       clear hy157
       simp only [Option.some.injEq, Prod.mk.injEq] at H
       obtain ⟨rfl, rfl, rfl⟩ := H
       have hnb38 := NB140_134.out
       have hnc38 := NB134_140.out
       have hnb39 := NB140_0.out
       have hnc39 := NB0_140.out
       have hcz40_0 : wc.cell? ⟨gb140, 0, none⟩ = some (.int .i64 t135) := (Yd BK140.out 0).trans rfl
       have hcz40_1 : wc.cell? ⟨gb140, 1, none⟩ = some (.slice Ao13 t136.length co13) := (Yd BK140.out 1).trans rfl
       have hfz40_0 := Ye BK140.out 0
       have hfz40_1 := Ye BK140.out 1
       try go_wp2_with (first | ((with_reducible refine gate_callee (f := 35) rfl ?_); refine goesL_ (some 30) rfl rfl Try.func35 (by kernel_rfl) rfl #[.pointer (some ⟨g, 0, none⟩), .int .i64 (t136.length : Int)] rfl (by (try simp only [List.map_toArray, List.map_cons, List.map_nil]); first | done | rfl | (simp only [List.length_drop, List.length_take]; rfl)) ?_; (with_reducible refine (spec_l40Rd_pick.calls kj5 g s0_0 x1001_5 (t136.length : Int) t150 t151 w0 _ ?side1 ?side2 A33.out).mono ?_); (case side1 => repeat (first | (with_reducible first | exact HI0.out | apply IsS94.alloc | apply IsS94.drewN | apply IsS94.drew | apply IsS94.set_1 | refine IsS94.far ?_ NB0_134.out _ | refine IsS94.far ?_ NB0_140.out _) | exact HI0.out)); (case side2 => repeat (first | (with_reducible first | exact HB.out | apply Yf | apply Yg | apply Yh | refine Yi ?_ (IsS94.ge HI0.out) | refine Yi ?_ GE134.out | refine Yi ?_ GE140.out) | exact HB.out)); rintro e w41 ⟨rfl, hi, hb, hk⟩; refine ⟨_, rfl, ?_⟩; have n0_ := Yj (Kd.R_mono (Kd.R_keep (IsS94.apart (show IsS94 w0 _ g s0_0 x1001_5 from by repeat (first | (with_reducible first | exact HI0.out | apply IsS94.alloc | apply IsS94.drewN | apply IsS94.drew | apply IsS94.set_1 | refine IsS94.far ?_ NB0_134.out _ | refine IsS94.far ?_ NB0_140.out _) | exact HI0.out)) (by (with_reducible repeat (first | apply Kd.R_alloc | apply Kd.R_drewN | apply Kd.R_drew)); exact HO_141001.out) (by decide)) hk (fun _ h => h.2)) (fun _ h => h.1)); have n1_ := Yj (KeepBut.blk hk (g' := gb134) (o := .cells #[.int .i64 0, .slice none 0 0] 36 (0, 0)) (by (with_reducible repeat (first | refine Ya ?_ _ | refine Yb ?_ | refine Yc ?_ _)); exact BK134.out) NB134_0.out (by simp)); have n2_ := Yj (KeepBut.blk hk (g' := gb140) (o := .cells #[.int .i64 t135, .slice Ao13 t136.length co13] 36 (0, 0)) (by (with_reducible repeat (first | refine Ya ?_ _ | refine Yb ?_ | refine Yc ?_ _)); exact BK140.out) NB140_0.out (by simp)); have n3_ := Yj (KeepBut.trans (by repeat (first | (with_reducible first | exact HK.out | apply KeepBut.set_ | apply keep_drewN | apply keep_drew | apply keep_alloc | refine keep_far ?_ GW134.out _ | refine keep_far ?_ GW140.out _) | exact HK.out)) hk (.inl rfl)); have n4_ := Yj (hb); have n5_ := Yj (hi); clear HO_141001; clear BK134; clear BK140; clear HK; clear HB; clear HI0; have HO_141001 := n0_; have BK134 := n1_; have BK140 := n2_; have HK := n3_; have HB := n4_; have HI0 := n5_; clear n0_ n1_ n2_ n3_ n4_ n5_; (try clear hb); (try clear hb2); (try clear hk); (try clear hi)))
       have n0_ := Yj (Kd.R_drew HO_141001.out)
       have n1_ := Yj (Yb BK134.out)
       have n2_ := Yj (Yb BK140.out)
       have n3_ := Yj (IsS94.drew HI0.out)
       have n4_ := Yj (keep_drew HK.out)
       have n5_ := Yj (Yh HB.out)
       clear HO_141001
       clear BK134
       clear BK140
       clear HI0
       clear HK
       clear HB
       have HO_141001 := n0_
       have BK134 := n1_
       have BK140 := n2_
       have HI0 := n3_
       have HK := n4_
       have HB := n5_
       clear n0_ n1_ n2_ n3_ n4_ n5_
       refine start_ (n := 15) (S := fun w' => w'.cell? ⟨gb140, 0, none⟩ = some (.int .i64 t135) ∧ w'.cell? ⟨gb140, 1, none⟩ = some (.slice Ao13 t136.length co13)) (ds := [14]) #[false, false, false, false, false, false, false, false, false, false, false, false, false, false, false] (by kernel_rfl) rfl rfl ⟨(Yd BK140.out 0).trans rfl, (Yd BK140.out 1).trans rfl⟩ (fun hHeld => ?_); refine with_tabW spec_l7Any.tab6 spec_l7Any.bits6 (fun HT_ HW_ => ?_)
       generalize w41.drew = w42 at HO_141001 BK134 BK140 HI0 HK HB hHeld ⊢
       refine pure_ (i := 0) (N := some 31) (v := ?_) (a' := ?_) #[true, false, false, false, false, false, false, false, false, false, false, false, false, false, false] rfl rfl (any_of HT_.out (by kernel_rfl)) (fun _ _ _ h => h) (Or.inl ⟨by rfl, ?_⟩) ?_ ?_
       rotate_left
       ·intro w'
        go_simp
        with_reducible rfl
       rotate_left
       ·simp only [Act.put, List.setIfInBounds_toArray, List.set_cons_zero, List.set_cons_succ, i64_w, i32_w]
        rfl
       refine pure_ (i := 2) (N := some 33) (v := ?_) (a' := ?_) #[true, false, true, false, false, false, false, false, false, false, false, false, false, false, false] rfl rfl (any_of HT_.out (by kernel_rfl)) (fun _ _ _ h => h) (Or.inl ⟨by rfl, ?_⟩) ?_ ?_
       rotate_left
       ·intro w'
        go_simp
        with_reducible rfl
       rotate_left
       ·simp only [Act.put, List.setIfInBounds_toArray, List.set_cons_zero, List.set_cons_succ, i64_w, i32_w]
        rfl
       refine pure_ (i := 3) (N := some 34) (v := ?_) (a' := ?_) #[true, false, true, true, false, false, false, false, false, false, false, false, false, false, false] rfl rfl (any_of HT_.out (by kernel_rfl)) (fun _ _ _ h => h) (Or.inl ⟨by rfl, ?_⟩) ?_ ?_
       rotate_left
       ·intro w'
        go_simp
        with_reducible rfl
       rotate_left
       ·simp only [Act.put, List.setIfInBounds_toArray, List.set_cons_zero, List.set_cons_succ, i64_w, i32_w]
        rfl
       refine pure_ (i := 4) (N := some 35) (v := ?_) (a' := ?_) #[true, false, true, true, true, false, false, false, false, false, false, false, false, false, false] rfl rfl (any_of HT_.out (by kernel_rfl)) (fun _ _ _ h => h) (Or.inl ⟨by rfl, ?_⟩) ?_ ?_
       rotate_left
       ·intro w'
        go_simp
        with_reducible rfl
       rotate_left
       ·simp only [Act.put, List.setIfInBounds_toArray, List.set_cons_zero, List.set_cons_succ, i64_w, i32_w]
        rfl
       refine pure_ (i := 7) (N := some 38) (v := ?_) (a' := ?_) #[true, false, true, true, true, false, false, true, false, false, false, false, false, false, false] rfl rfl (any_of HT_.out (by kernel_rfl)) (fun _ _ _ h => h) (Or.inl ⟨by rfl, ?_⟩) ?_ ?_
       rotate_left
       ·intro w'
        go_simp
        with_reducible rfl
       rotate_left
       ·simp only [Act.put, List.setIfInBounds_toArray, List.set_cons_zero, List.set_cons_succ, i64_w, i32_w]
        rfl
       refine take_ (i := 1) (N := some 32) (v := ?_) (a' := ?_) #[true, true, true, true, true, false, false, true, false, false, false, false, false, false, false] rfl rfl (take_ofW HT_.out HW_.out (by kernel_rfl)) (fun _ _ _ h => h) (Or.inl ⟨by rfl, ?_⟩) hHeld ?_ ?_
       rotate_left
       ·rintro w' ⟨s0, s1⟩
        go_simp
        with_reducible rfl
       rotate_left
       ·simp only [Act.put, List.setIfInBounds_toArray, List.set_cons_zero, List.set_cons_succ, i64_w, i32_w]
        rfl
       refine take_ (i := 5) (N := some 36) (v := ?_) (a' := ?_) #[true, true, true, true, true, true, false, true, false, false, false, false, false, false, false] rfl rfl (take_ofW HT_.out HW_.out (by kernel_rfl)) (fun _ _ _ h => h) (Or.inl ⟨by rfl, ?_⟩) hHeld ?_ ?_
       rotate_left
       ·rintro w' ⟨s0, s1⟩
        go_simp
        with_reducible rfl
       rotate_left
       ·simp only [Act.put, List.setIfInBounds_toArray, List.set_cons_zero, List.set_cons_succ, i64_w, i32_w]
        rfl
       refine pure_ (i := 6) (N := some 37) (v := ?_) (a' := ?_) #[true, true, true, true, true, true, true, true, false, false, false, false, false, false, false] rfl rfl (any_of HT_.out (by kernel_rfl)) (fun _ _ _ h => h) (Or.inl ⟨by rfl, ?_⟩) ?_ ?_
       rotate_left
       ·intro w'
        go_simp
        with_reducible rfl
       rotate_left
       ·simp only [Act.put, List.setIfInBounds_toArray, List.set_cons_zero, List.set_cons_succ, i64_w, i32_w]
        rfl
       refine pure_ (i := 8) (N := some 39) (v := ?_) (a' := ?_) #[true, true, true, true, true, true, true, true, true, false, false, false, false, false, false] rfl rfl (any_of HT_.out (by kernel_rfl)) (fun _ _ _ h => h) (Or.inl ⟨by rfl, ?_⟩) ?_ ?_
       rotate_left
       ·intro w'
        go_simp
        with_reducible rfl
       rotate_left
       ·simp only [Act.put, List.setIfInBounds_toArray, List.set_cons_zero, List.set_cons_succ, i64_w, i32_w]
        rfl
       refine pure_ (i := 9) (N := some 40) (v := ?_) (a' := ?_) #[true, true, true, true, true, true, true, true, true, true, false, false, false, false, false] rfl rfl (any_of HT_.out (by kernel_rfl)) (fun _ _ _ h => h) (Or.inl ⟨by rfl, ?_⟩) ?_ ?_
       rotate_left
       ·intro w'
        go_simp
        with_reducible rfl
       rotate_left
       ·simp only [Act.put, List.setIfInBounds_toArray, List.set_cons_zero, List.set_cons_succ, i64_w, i32_w]
        rfl
       refine one_ (i := 10) (N := some 41) #[true, true, true, true, true, true, true, true, true, true, true, false, false, false, false] rfl rfl (one_of HT_.out (by kernel_rfl)) (by decide) (fun K hK => ?_)
       refine Kd.R_lit_step (Kd.int .i64) _ 3 ?hg (N := 41) ?hd (xs := ([(-1), wrap64 (2 * (wrap64 ((wrap64 (1 + t135)) + t150)))] : List Int)) (inner := [.int .i64 (-1), .int .i64 (wrap64 (2 * (wrap64 ((wrap64 (1 + t135)) + t150))))]) (ok := fun _ => True) (okp := fun _ => True) ?hr ?hp (fun _ hk => hk) trivial (Below.refl _ _) (Nat.le_refl _) (by simp) ?_; (case hd => rfl); (case hg => rfl); (case hr => first | (go_simp; done) | (go_simp; rfl)); (case hp => exact (Reps.one (show Kd.M (Kd.int .i64) _ _ _ (-1) [.int .i64 (-1)] from rfl) (Reps.one (show Kd.M (Kd.int .i64) _ _ _ (wrap64 (2 * (wrap64 ((wrap64 (1 + t135)) + t150)))) [.int .i64 (wrap64 (2 * (wrap64 ((wrap64 (1 + t135)) + t150))))] from rfl) (Reps.none _ _))))
       intro v153 w43 ho44 hb hg_ hnew_
       clear hg_ hnew_
       (first | rw [← Ny152.out] at ho44 | (simp only [Int.reduceToNat] at ho44; rw [← Ny152.out] at ho44))
       have n0_ := Yj (Kd.R_below (by (with_reducible repeat (first | apply Kd.R_alloc | apply Kd.R_drewN | apply Kd.R_drew)); exact HO_141001.out) hb)
       have n1_ := Yj (Kd.R_lower ho44 (keep_size (w := w) (g := g) (row := none) (by repeat (first | (with_reducible first | exact HK.out | apply KeepBut.set_ | apply keep_drewN | apply keep_drew | apply keep_alloc | refine keep_far ?_ GW134.out _ | refine keep_far ?_ GW140.out _) | exact HK.out))))
       have n2_ := Yj (blk_below (g := gb134) (o := .cells #[.int .i64 0, .slice none 0 0] 36 (0, 0)) (by (with_reducible repeat (first | refine Ya ?_ _ | refine Yb ?_ | refine Yc ?_ _)); exact BK134.out) hb)
       have n3_ := Yj (blk_below (g := gb140) (o := .cells #[.int .i64 t135, .slice Ao13 t136.length co13] 36 (0, 0)) (by (with_reducible repeat (first | refine Ya ?_ _ | refine Yb ?_ | refine Yc ?_ _)); exact BK140.out) hb)
       have n4_ := Yj (IsS94.below (by repeat (first | (with_reducible first | exact HI0.out | apply IsS94.alloc | apply IsS94.drewN | apply IsS94.drew | apply IsS94.set_1 | refine IsS94.far ?_ NB0_134.out _ | refine IsS94.far ?_ NB0_140.out _) | exact HI0.out)) hb)
       have n5_ := Yj (KeepBut.trans (by repeat (first | (with_reducible first | exact HK.out | apply KeepBut.set_ | apply keep_drewN | apply keep_drew | apply keep_alloc | refine keep_far ?_ GW134.out _ | refine keep_far ?_ GW140.out _) | exact HK.out)) (KeepBut.of_below hb g none) (.inl rfl))
       have n6_ := Yj (below_step (by repeat (first | (with_reducible first | exact HB.out | apply Yf | apply Yg | apply Yh | refine Yi ?_ (IsS94.ge HI0.out) | refine Yi ?_ GE134.out | refine Yi ?_ GE140.out) | exact HB.out)) hb)
       clear HO_141001
       clear BK134
       clear BK140
       clear HI0
       clear HK
       clear HB
       have HO_141001 := n0_
       have HO154 := n1_
       have BK134 := n2_
       have BK140 := n3_
       have HI0 := n4_
       have HK := n5_
       have HB := n6_
       clear n0_ n1_ n2_ n3_ n4_ n5_ n6_
       clear hb ho44
       obtain ⟨Ao45, co45, eo45⟩ := Kd.R_slice HO154.out
       (first | subst eo45 | (injection eo45 with f1_ f2_ f3_; have f4_ := f1_.symm; have f5_ := f3_.symm; clear f1_ f2_ f3_; subst f4_; subst f5_))
       refine hK.out _ _ ⟨(Yd BK140.out 0).trans rfl, (Yd BK140.out 1).trans rfl⟩ (fun hHeld => ?_)
       clear hK K
       refine norm_ (a' := ?_) ?_ ?_
       rotate_left
       ·show Act.put _ (some 41) _ = _
        simp only [Act.put, List.setIfInBounds_toArray, List.set_cons_zero, List.set_cons_succ, i64_w, i32_w]
        rfl
       refine one_ (i := 11) (N := some 42) #[true, true, true, true, true, true, true, true, true, true, true, true, false, false, false] rfl rfl (one_of HT_.out (by kernel_rfl)) (by decide) (fun K hK => ?_)
       refine goes_ Try.func67 (by kernel_rfl) rfl #[.pointer (some ⟨g, 0, none⟩), .slice Ao45 y152.length co45] (by rfl) rfl rfl (by (try simp only [List.map_toArray, List.map_cons, List.map_nil]); first | done | rfl | (simp only [List.length_drop, List.length_take]; rfl)) ?_
       with_reducible refine (spec_l40Rd_num.calls kj5 g s0_0 t151 _ _ y152 t155 t156 w0 _ ?side1 ?side2 ?side3 ?side4 ?side5 A34.out).mono ?_
       (case side1 => repeat (first | (with_reducible first | exact HI0.out | apply IsS94.alloc | apply IsS94.drewN | apply IsS94.drew | apply IsS94.set_1 | refine IsS94.far ?_ NB0_134.out _ | refine IsS94.far ?_ NB0_140.out _) | exact HI0.out))
       (case side2 => repeat (first | (with_reducible first | exact HB.out | apply Yf | apply Yg | apply Yh | refine Yi ?_ (IsS94.ge HI0.out) | refine Yi ?_ GE134.out | refine Yi ?_ GE140.out) | exact HB.out))
       (case side3 => repeat (first | exact (Kd.R_reads' HO154.out).2.2 | (with_reducible refine Kd.C_alloc ?_ _) | (with_reducible refine Kd.C_drewN ?_ _) | (with_reducible refine Kd.C_drew ?_)))
       (case side4 => exact (Kd.R_reads' HO154.out).2.1)
       (case side5 => exact far_slice (IsS94.own_ne HI0.out HO154.out (by decide)))
       rintro e w46 ⟨rfl, hi, hb, hk⟩
       refine ⟨_, rfl, ?_⟩
       have n0_ := Yj (Kd.R_mono (Kd.R_keep (IsS94.apart (show IsS94 w0 _ g s0_0 t151 from by repeat (first | (with_reducible first | exact HI0.out | apply IsS94.alloc | apply IsS94.drewN | apply IsS94.drew | apply IsS94.set_1 | refine IsS94.far ?_ NB0_134.out _ | refine IsS94.far ?_ NB0_140.out _) | exact HI0.out)) (by (with_reducible repeat (first | apply Kd.R_alloc | apply Kd.R_drewN | apply Kd.R_drew)); exact HO_141001.out) (by decide)) hk (fun _ h => h.2)) (fun _ h => h.1))
       have n1_ := Yj (KeepBut.blk hk (g' := gb134) (o := .cells #[.int .i64 0, .slice none 0 0] 36 (0, 0)) (by (with_reducible repeat (first | refine Ya ?_ _ | refine Yb ?_ | refine Yc ?_ _)); exact BK134.out) NB134_0.out (by simp))
       have n2_ := Yj (KeepBut.blk hk (g' := gb140) (o := .cells #[.int .i64 t135, .slice Ao13 t136.length co13] 36 (0, 0)) (by (with_reducible repeat (first | refine Ya ?_ _ | refine Yb ?_ | refine Yc ?_ _)); exact BK140.out) NB140_0.out (by simp))
       have n3_ := Yj (Kd.R_mono (Kd.R_keep (IsS94.apart (show IsS94 w0 _ g s0_0 t151 from by repeat (first | (with_reducible first | exact HI0.out | apply IsS94.alloc | apply IsS94.drewN | apply IsS94.drew | apply IsS94.set_1 | refine IsS94.far ?_ NB0_134.out _ | refine IsS94.far ?_ NB0_140.out _) | exact HI0.out)) (by (with_reducible repeat (first | apply Kd.R_alloc | apply Kd.R_drewN | apply Kd.R_drew)); exact HO154.out) (by decide)) hk (fun _ h => h.2)) (fun _ h => h.1))
       have n4_ := Yj (KeepBut.trans (by repeat (first | (with_reducible first | exact HK.out | apply KeepBut.set_ | apply keep_drewN | apply keep_drew | apply keep_alloc | refine keep_far ?_ GW134.out _ | refine keep_far ?_ GW140.out _) | exact HK.out)) hk (.inl rfl))
       have n5_ := Yj (hb)
       have n6_ := Yj (hi)
       clear HO_141001
       clear BK134
       clear BK140
       clear HO154
       clear HK
       clear HB
       clear HI0
       have HO_141001 := n0_
       have BK134 := n1_
       have BK140 := n2_
       have HO154 := n3_
       have HK := n4_
       have HB := n5_
       have HI0 := n6_
       clear n0_ n1_ n2_ n3_ n4_ n5_ n6_
       (try clear hb)
       (try clear hb2)
       (try clear hk)
       (try clear hi)
       have p37 : 0 ≤ (t150 : Int) := of_decide_eq_true (by first | (with_reducible assumption) | assumption)
       have q37 : (t150 : Int) < ((t136.length : Int) : Int) := of_decide_eq_true (by first | (with_reducible assumption) | assumption)
       obtain ⟨go37, co37, eo37, gb37, gl37, cl37, HG37⟩ := Kd.R_form HO_141001.out (by omega)
       (first | cases eo37 | (injection eo37 with ea_ en_ ec_; (first | subst ea_ | (injection ea_ with ea_; subst ea_)); subst ec_; clear en_))
       have GB37 := Yj gb37
       have GG37 := Yj HG37
       clear gb37 gl37 HG37
       obtain ⟨ce37, hcl37, hM37, hcc37, hfr37⟩ := Kd.R_elem HO_141001.out z73 (t150 : Int) p37 q37
       obtain rfl := k73_openM hM37
       have hx37_0 : World.cell? _ ⟨go37, (t150 : Int).toNat * 2, none⟩ = some (.int .i64 ((rd_T73 t136 t150).f0)) := hcc37 0 _ rfl
       have hx37_1 : World.cell? _ ⟨go37, (t150 : Int).toNat * 2 + 1, none⟩ = some (.int .i64 ((rd_T73 t136 t150).f1)) := hcc37 1 _ rfl
       have hf37_0 : World.frozen? _ ⟨go37, (t150 : Int).toNat * 2, none⟩ = false := hfr37 0
       have hf37_1 : World.frozen? _ ⟨go37, (t150 : Int).toNat * 2 + 1, none⟩ = false := hfr37 1
       (try clear hcl37); (try clear hcc37); (try clear hfr37); (try clear hM37)
       replace p37 := eq_true p37
       replace q37 := eq_true q37
       have HN0_go37 := Yj (show g ≠ go37 from by have h_ := IsS94.own_ne HI0.out HO_141001.out (by decide); intro e_; exact h_ (by rw [e_]; rfl))
       obtain ⟨ce47, hcl47, hM47, hcc47, hfr47⟩ := Kd.R_elem HO_141001.out z73 (t150 : Int) (of_decide_eq_true (by first | (with_reducible assumption) | assumption)) (by have h_ : (t150 : Int) < ((t136.length : Int) : Int) := of_decide_eq_true (by first | (with_reducible assumption) | assumption); first | exact h_ | (have e_ := (Kd.R_reads' HO_141001.out).1; omega) | simpa using h_)
       obtain rfl := k73_openM hM47
       have HP47 := (Kd.R_seg HO_141001.out (t150 : Int) (of_decide_eq_true (by first | (with_reducible assumption) | assumption)) (by have h_ : (t150 : Int) < ((t136.length : Int) : Int) := of_decide_eq_true (by first | (with_reducible assumption) | assumption); first | exact h_ | (have e_ := (Kd.R_reads' HO_141001.out).1; omega) | simpa using h_) (seg := [.int .i64 t155, .int .i64 0]) (j := 0) hcl47 hcc47 (show 2 ≤ 2 from by decide) (x' := (⟨t155, 0⟩ : S73)) (k73_mkM _ _ _ (⟨t155, 0⟩ : S73) ) (fun _ hk => hk)).1
       rw [← Ny157.out] at HP47
       have HQ47 := Yj HP47
       (try clear hcl47); (try clear hcc47); (try clear hfr47); (try clear hM47); (try clear HP47)
       refine hK.out _ _ ⟨(Yd BK140.out 0).trans rfl, (Yd BK140.out 1).trans rfl⟩ (fun hHeld => ?_)
       clear hK K
       refine norm_ (a' := ?_) ?_ ?_
       rotate_left
       ·show Act.put _ (some 42) _ = _
        simp only [Act.put, List.setIfInBounds_toArray, List.set_cons_zero, List.set_cons_succ, i64_w, i32_w]
        rfl
       refine pure_ (i := 12) (N := some 43) (v := ?_) (a' := ?_) #[true, true, true, true, true, true, true, true, true, true, true, true, true, false, false] rfl rfl (any_of HT_.out (by kernel_rfl)) (fun _ _ _ h => h) (Or.inl ⟨by rfl, ?_⟩) ?_ ?_
       rotate_left
       ·intro w'
        go_simp
        with_reducible rfl
       rotate_left
       ·simp only [Act.put, List.setIfInBounds_toArray, List.set_cons_zero, List.set_cons_succ, i64_w, i32_w]
        rfl
       refine pure_ (i := 13) (N := some 44) (v := ?_) (a' := ?_) #[true, true, true, true, true, true, true, true, true, true, true, true, true, true, false] rfl rfl (any_of HT_.out (by kernel_rfl)) (fun _ _ _ h => h) (Or.inl ⟨by rfl, ?_⟩) ?_ ?_
       rotate_left
       ·intro w'
        go_simp
        with_reducible rfl
       rotate_left
       ·simp only [Act.put, List.setIfInBounds_toArray, List.set_cons_zero, List.set_cons_succ, i64_w, i32_w]
        rfl
       refine last_ (i := 14) (N := none) #[true, true, true, true, true, true, true, true, true, true, true, true, true, true, true] rfl rfl (one_of HT_.out (by kernel_rfl)) (by decide) (fun K hK => ?_)
       refine skip_ (w1 := ?_) (by rfl) rfl ?_ ?_
       rotate_left
       ·go_simp
        rfl
       refine hK.out _ _ ?_
       clear hK K
       refine done_ (done_of HT_.out (by kernel_rfl)) ?_
       have n0_ : Aside0 (Kd.R k73 73 ((w46.setCell ⟨go37, (t150 : Int).toNat * 2, none⟩ (.int .i64 t155)).setCell ⟨go37, (t150 : Int).toNat * 2 + 1, none⟩ (.int .i64 0)) w.heap.size (fun _ => True) (.slice (some ⟨go37, 0, none⟩) t136.length co13) y157) := ⟨by (with_reducible repeat (first | apply Kd.R_alloc | apply Kd.R_drewN | apply Kd.R_drew)); exact HQ47.out⟩
       have n1_ : Aside0 (Kd.R (Kd.int .i64) 3 ((w46.setCell ⟨go37, (t150 : Int).toNat * 2, none⟩ (.int .i64 t155)).setCell ⟨go37, (t150 : Int).toNat * 2 + 1, none⟩ (.int .i64 0)) w.heap.size (fun _ => True) (.slice Ao45 y152.length co45) y152) := ⟨by (with_reducible repeat (first | apply Kd.R_alloc | apply Kd.R_drewN | apply Kd.R_drew)); exact Kd.R_mono (Kd.R_far (p := ⟨go37, (t150 : Int).toNat * 2 + 1, none⟩) (Kd.R_far (p := ⟨go37, (t150 : Int).toNat * 2, none⟩) (Kd.R_types HO154.out GG37.out (by decide)) (fun _ hk => hk.2) (.int .i64 t155)) (fun _ hk => hk.2) (.int .i64 0)) (fun _ hk => trivial)⟩
       have n2_ : Aside0 (((w46.setCell ⟨go37, (t150 : Int).toNat * 2, none⟩ (.int .i64 t155)).setCell ⟨go37, (t150 : Int).toNat * 2 + 1, none⟩ (.int .i64 0)).heap[gb134]? = some (.cells #[.int .i64 0, .slice none 0 0] 36 (0, 0))) := ⟨by (with_reducible repeat (first | refine Ya ?_ _ | refine Yb ?_ | refine Yc ?_ _)); refine blk_far ?_ (by have h_ := Kd.R_ne HO_141001.out BK134.out (by decide); intro e_; exact h_ (by rw [e_]; rfl)) _; (with_reducible repeat (first | refine Ya ?_ _ | refine Yb ?_ | refine Yc ?_ _)); refine blk_far ?_ (by have h_ := Kd.R_ne HO_141001.out BK134.out (by decide); intro e_; exact h_ (by rw [e_]; rfl)) _; (with_reducible repeat (first | refine Ya ?_ _ | refine Yb ?_ | refine Yc ?_ _)); exact BK134.out⟩
       have n3_ : Aside0 (((w46.setCell ⟨go37, (t150 : Int).toNat * 2, none⟩ (.int .i64 t155)).setCell ⟨go37, (t150 : Int).toNat * 2 + 1, none⟩ (.int .i64 0)).heap[gb140]? = some (.cells #[.int .i64 t135, .slice (some ⟨go37, 0, none⟩) t136.length co13] 36 (0, 0))) := ⟨by (with_reducible repeat (first | refine Ya ?_ _ | refine Yb ?_ | refine Yc ?_ _)); refine blk_far ?_ (by have h_ := Kd.R_ne HO_141001.out BK140.out (by decide); intro e_; exact h_ (by rw [e_]; rfl)) _; (with_reducible repeat (first | refine Ya ?_ _ | refine Yb ?_ | refine Yc ?_ _)); refine blk_far ?_ (by have h_ := Kd.R_ne HO_141001.out BK140.out (by decide); intro e_; exact h_ (by rw [e_]; rfl)) _; (with_reducible repeat (first | refine Ya ?_ _ | refine Yb ?_ | refine Yc ?_ _)); exact BK140.out⟩
       have n4_ : Aside0 (IsS94 w0 ((w46.setCell ⟨go37, (t150 : Int).toNat * 2, none⟩ (.int .i64 t155)).setCell ⟨go37, (t150 : Int).toNat * 2 + 1, none⟩ (.int .i64 0)) g s0_0 t156) := ⟨by repeat (first | (with_reducible first | exact HI0.out | apply IsS94.alloc | apply IsS94.drewN | apply IsS94.drew | apply IsS94.set_1 | refine IsS94.far ?_ HN0_go37.out _ | refine IsS94.far ?_ HN0_go37.out _ | refine IsS94.far ?_ NB0_134.out _ | refine IsS94.far ?_ NB0_140.out _) | exact HI0.out)⟩
       have n5_ : Aside0 (KeepBut w ((w46.setCell ⟨go37, (t150 : Int).toNat * 2, none⟩ (.int .i64 t155)).setCell ⟨go37, (t150 : Int).toNat * 2 + 1, none⟩ (.int .i64 0)) g none) := ⟨by repeat (first | (with_reducible first | exact HK.out | apply KeepBut.set_ | apply keep_drewN | apply keep_drew | apply keep_alloc | refine keep_far ?_ GB37.out _ | refine keep_far ?_ GB37.out _ | refine keep_far ?_ GW134.out _ | refine keep_far ?_ GW140.out _) | exact HK.out)⟩
       have n6_ : Aside0 (Below w0.heap.size w0 ((w46.setCell ⟨go37, (t150 : Int).toNat * 2, none⟩ (.int .i64 t155)).setCell ⟨go37, (t150 : Int).toNat * 2 + 1, none⟩ (.int .i64 0))) := ⟨by repeat (first | (with_reducible first | exact HB.out | apply Yf | apply Yg | apply Yh | refine Yi ?_ (Nat.le_trans HL.out GB37.out) | refine Yi ?_ (Nat.le_trans HL.out GB37.out) | refine Yi ?_ (IsS94.ge HI0.out) | refine Yi ?_ GE134.out | refine Yi ?_ GE140.out) | exact HB.out)⟩
       (try clear HO_141001)
       (try clear HO154)
       (try clear BK134)
       (try clear BK140)
       (try clear HI0)
       (try clear HK)
       (try clear HB)
       generalize ((w46.setCell ⟨go37, (t150 : Int).toNat * 2, none⟩ (.int .i64 t155)).setCell ⟨go37, (t150 : Int).toNat * 2 + 1, none⟩ (.int .i64 0)) = w48 at n0_ n1_ n2_ n3_ n4_ n5_ n6_ ⊢
       have HO_141001 := n0_
       have HO154 := n1_
       have BK134 := n2_
       have BK140 := n3_
       have HI0 := n4_
       have HK := n5_
       have HB := n6_
       clear n0_ n1_ n2_ n3_ n4_ n5_ n6_
       have hcz49_0 : w48.cell? ⟨gb140, 0, none⟩ = some (.int .i64 t135) := (Yd BK140.out 0).trans rfl
       have hcz49_1 : w48.cell? ⟨gb140, 1, none⟩ = some (.slice (some ⟨go37, 0, none⟩) t136.length co13) := (Yd BK140.out 1).trans rfl
       have hfz49_0 := Ye BK140.out 0
       have hfz49_1 := Ye BK140.out 1
       have hnb50 := NB134_0.out
       have hnc50 := NB0_134.out
       have hcz51_0 : w48.cell? ⟨gb134, 0, none⟩ = some (.int .i64 0) := (Yd BK134.out 0).trans rfl
       have hcz51_1 : w48.cell? ⟨gb134, 1, none⟩ = some (.slice none 0 0) := (Yd BK134.out 1).trans rfl
       have hfz51_0 := Ye BK134.out 0
       have hfz51_1 := Ye BK134.out 1
       try go_wp2
       refine bodyPost_ret (results_cell_row rfl _ _ gb134 36 #[.int .i64 t135, .slice (some ⟨go37, 0, none⟩) t136.length co13] (0, 0) _ rfl (by (with_reducible repeat (first | refine Ya ?_ _ | refine Yb ?_ | refine Yc ?_ _)); refine blk_put (cs := #[.int .i64 t135, .slice none 0 0]) ?_ 1 _ rfl; (with_reducible repeat (first | refine Ya ?_ _ | refine Yb ?_ | refine Yc ?_ _)); refine blk_put (cs := #[.int .i64 0, .slice none 0 0]) ?_ 0 _ rfl; (with_reducible repeat (first | refine Ya ?_ _ | refine Yb ?_ | refine Yc ?_ _)); exact BK134.out) Try.underlying36 rfl (by kernel_rfl)) rfl ?_
       exact ⟨_, by first | rfl | (simp [errW_none, errW_some] <;> rfl) | (simp [*, errW_none, errW_some] <;> rfl), by (with_reducible repeat (first | apply Kd.R_alloc | apply Kd.R_drewN | apply Kd.R_drew)); exact Kd.R_mono (Kd.R_far (p := ⟨gb134, 1, none⟩) (Kd.R_far (p := ⟨gb134, 0, none⟩) (Kd.R_types HO_141001.out BK134.out (by decide)) (fun _ hk => hk.2) (.int .i64 t135)) (fun _ hk => hk.2) (.slice (some ⟨go37, 0, none⟩) t136.length co13)) (fun _ hk => trivial), by repeat (first | (with_reducible first | exact HI0.out | apply IsS94.alloc | apply IsS94.drewN | apply IsS94.drew | apply IsS94.set_1 | refine IsS94.far ?_ NB0_134.out _ | refine IsS94.far ?_ NB0_140.out _) | exact HI0.out), by repeat (first | (with_reducible first | exact HB.out | apply Yf | apply Yg | apply Yh | refine Yi ?_ (IsS94.ge HI0.out) | refine Yi ?_ GE134.out | refine Yi ?_ GE140.out) | exact HB.out), by repeat (first | (with_reducible first | exact HK.out | apply KeepBut.set_ | apply keep_drewN | apply keep_drew | apply keep_alloc | refine keep_far ?_ GW134.out _ | refine keep_far ?_ GW140.out _) | exact HK.out)⟩
      ·rw [if_neg c36] at H
       exact absurd H (by simp)
     ·rw [if_neg c35] at H
      exact absurd H (by simp)
 ·rw [if_neg c5] at H
  have c5b0 : (t141 == 0) = false := beq_eq_false_iff_ne.mpr c5
  have c5b1 : (t141 != 0) = true := bne_iff_ne.mpr c5
  simp only [Option.some.injEq, Prod.mk.injEq] at H
  obtain ⟨rfl, rfl, rfl⟩ := H
  go_enter Try.func32, Try.ntmps32
  go_wp2_with (first | ((with_reducible refine gate_dst (N := 4) rfl ?_); (try (refine gate_guard (by rfl) ?_; dsimp only)); refine box_event ?hg (N := 4) ?hd (cs := #[.int .i64 0, .slice none 0 0]) (t := 36) ?hr ?_; (case hd => rfl); (case hg => rfl); (case hr => first | (go_simp; done) | (go_simp; rfl)); intro gb134 hg w52 hbox hb; have n0_ := Yj (IsS94.below (by repeat (first | (with_reducible first | exact HI0.out | apply IsS94.alloc | apply IsS94.drewN | apply IsS94.drew | apply IsS94.set_1) | exact HI0.out)) hb); have n1_ := Yj (KeepBut.trans (by repeat (first | (with_reducible first | exact HK.out | apply KeepBut.set_ | apply keep_drewN | apply keep_drew | apply keep_alloc) | exact HK.out)) (KeepBut.of_below hb g none) (.inl rfl)); have n2_ := Yj (below_step (by repeat (first | (with_reducible first | exact HB.out | apply Yf | apply Yg | apply Yh | refine Yi ?_ (IsS94.ge HI0.out)) | exact HB.out)) hb); have n3_ := Yj (hbox); have n4_ := Yj ((by rw [hg]; exact (keep_size (w := w) (g := g) (row := none) (by repeat (first | (with_reducible first | exact HK.out | apply KeepBut.set_ | apply keep_drewN | apply keep_drew | apply keep_alloc) | exact HK.out))) : w.heap.size ≤ gb134)); have n5_ := Yj ((Nat.le_trans HW0.out (by rw [hg]; exact (keep_size (w := w) (g := g) (row := none) (by repeat (first | (with_reducible first | exact HK.out | apply KeepBut.set_ | apply keep_drewN | apply keep_drew | apply keep_alloc) | exact HK.out))) : w.heap.size ≤ gb134) : w0.heap.size ≤ gb134)); have n6_ := Yj ((by rw [hg]; exact Nat.ne_of_lt (IsS94.lt (show IsS94 w0 _ g s0_0 s0_1 from by repeat (first | (with_reducible first | exact HI0.out | apply IsS94.alloc | apply IsS94.drewN | apply IsS94.drew | apply IsS94.set_1) | exact HI0.out))) : g ≠ gb134)); have n7_ := Yj ((by rw [hg]; exact Nat.ne_of_gt (IsS94.lt (show IsS94 w0 _ g s0_0 s0_1 from by repeat (first | (with_reducible first | exact HI0.out | apply IsS94.alloc | apply IsS94.drewN | apply IsS94.drew | apply IsS94.set_1) | exact HI0.out))) : gb134 ≠ g)); clear HI0; clear HK; clear HB; have HI0 := n0_; have HK := n1_; have HB := n2_; have BK134 := n3_; have GW134 := n4_; have GE134 := n5_; have NB0_134 := n6_; have NB134_0 := n7_; clear n0_ n1_ n2_ n3_ n4_ n5_ n6_ n7_; clear hb hbox hg) | ((with_reducible refine gate_callee (f := 66) rfl ?_); refine goesL_ (some 9) rfl rfl Try.func66 (by kernel_rfl) rfl #[.pointer (some ⟨g, 0, none⟩), .int .i64 a1] rfl (by (try simp only [List.map_toArray, List.map_cons, List.map_nil]); first | done | rfl | (simp only [List.length_drop, List.length_take]; rfl)) ?_; (with_reducible refine (spec_l7Draw.calls k g s0_0 s0_1 a1 t135 t136 t139 w0 _ ?side1 ?side2 A3.out).mono ?_); (case side1 => repeat (first | (with_reducible first | exact HI0.out | apply IsS94.alloc | apply IsS94.drewN | apply IsS94.drew | apply IsS94.set_1 | refine IsS94.far ?_ NB0_134.out _) | exact HI0.out)); (case side2 => repeat (first | (with_reducible first | exact HB.out | apply Yf | apply Yg | apply Yh | refine Yi ?_ (IsS94.ge HI0.out) | refine Yi ?_ GE134.out) | exact HB.out)); rintro e w53 ⟨v137, rfl, ho0, hi, hb, hk⟩; refine ⟨_, rfl, ?_⟩; have n0_ := Yj (KeepBut.blk hk (g' := gb134) (o := .cells #[.int .i64 0, .slice none 0 0] 36 (0, 0)) (by (with_reducible repeat (first | refine Ya ?_ _ | refine Yb ?_ | refine Yc ?_ _)); exact BK134.out) NB134_0.out (by simp)); have n1_ := Yj (Kd.R_lower ho0 (keep_size (w := w) (g := g) (row := none) (by repeat (first | (with_reducible first | exact HK.out | apply KeepBut.set_ | apply keep_drewN | apply keep_drew | apply keep_alloc | refine keep_far ?_ GW134.out _) | exact HK.out)))); have n2_ := Yj (KeepBut.trans (by repeat (first | (with_reducible first | exact HK.out | apply KeepBut.set_ | apply keep_drewN | apply keep_drew | apply keep_alloc | refine keep_far ?_ GW134.out _) | exact HK.out)) hk (.inl rfl)); have n3_ := Yj (hb); have n4_ := Yj (hi); clear BK134; clear HK; clear HB; clear HI0; have BK134 := n0_; have HO138 := n1_; have HK := n2_; have HB := n3_; have HI0 := n4_; clear n0_ n1_ n2_ n3_ n4_; (try clear hb); (try clear hb2); (try clear hk); (try clear hi); (try clear ho0)) | ((with_reducible refine gate_dst (N := 5) rfl ?_); (try (refine gate_guard (by rfl) ?_; dsimp only)); refine box_event ?hg (N := 5) ?hd (cs := #[.int .i64 0, .slice none 0 0]) (t := 36) ?hr ?_; (case hd => rfl); (case hg => rfl); (case hr => first | (go_simp; done) | (go_simp; rfl)); intro gb140 hg w54 hbox hb; have n0_ := Yj (Kd.R_below (by (with_reducible repeat (first | apply Kd.R_alloc | apply Kd.R_drewN | apply Kd.R_drew)); exact HO138.out) hb); have n1_ := Yj (IsS94.below (by repeat (first | (with_reducible first | exact HI0.out | apply IsS94.alloc | apply IsS94.drewN | apply IsS94.drew | apply IsS94.set_1 | refine IsS94.far ?_ NB0_134.out _) | exact HI0.out)) hb); have n2_ := Yj (blk_below (g := gb134) (o := .cells #[.int .i64 0, .slice none 0 0] 36 (0, 0)) (by (with_reducible repeat (first | refine Ya ?_ _ | refine Yb ?_ | refine Yc ?_ _)); exact BK134.out) hb); have n3_ := Yj (KeepBut.trans (by repeat (first | (with_reducible first | exact HK.out | apply KeepBut.set_ | apply keep_drewN | apply keep_drew | apply keep_alloc | refine keep_far ?_ GW134.out _) | exact HK.out)) (KeepBut.of_below hb g none) (.inl rfl)); have n4_ := Yj (below_step (by repeat (first | (with_reducible first | exact HB.out | apply Yf | apply Yg | apply Yh | refine Yi ?_ (IsS94.ge HI0.out) | refine Yi ?_ GE134.out) | exact HB.out)) hb); have n5_ := Yj (hbox); have n6_ := Yj ((by rw [hg]; exact (keep_size (w := w) (g := g) (row := none) (by repeat (first | (with_reducible first | exact HK.out | apply KeepBut.set_ | apply keep_drewN | apply keep_drew | apply keep_alloc | refine keep_far ?_ GW134.out _) | exact HK.out))) : w.heap.size ≤ gb140)); have n7_ := Yj ((Nat.le_trans HW0.out (by rw [hg]; exact (keep_size (w := w) (g := g) (row := none) (by repeat (first | (with_reducible first | exact HK.out | apply KeepBut.set_ | apply keep_drewN | apply keep_drew | apply keep_alloc | refine keep_far ?_ GW134.out _) | exact HK.out))) : w.heap.size ≤ gb140) : w0.heap.size ≤ gb140)); have n8_ := Yj ((by rw [hg]; exact Nat.ne_of_lt (blk_lt (g := gb134) (o := .cells #[.int .i64 0, .slice none 0 0] 36 (0, 0)) (by (with_reducible repeat (first | refine Ya ?_ _ | refine Yb ?_ | refine Yc ?_ _)); exact BK134.out)) : gb134 ≠ gb140)); have n9_ := Yj ((by rw [hg]; exact Nat.ne_of_gt (blk_lt (g := gb134) (o := .cells #[.int .i64 0, .slice none 0 0] 36 (0, 0)) (by (with_reducible repeat (first | refine Ya ?_ _ | refine Yb ?_ | refine Yc ?_ _)); exact BK134.out)) : gb140 ≠ gb134)); have n10_ := Yj ((by rw [hg]; exact Nat.ne_of_lt (IsS94.lt (show IsS94 w0 _ g s0_0 t139 from by repeat (first | (with_reducible first | exact HI0.out | apply IsS94.alloc | apply IsS94.drewN | apply IsS94.drew | apply IsS94.set_1 | refine IsS94.far ?_ NB0_134.out _) | exact HI0.out))) : g ≠ gb140)); have n11_ := Yj ((by rw [hg]; exact Nat.ne_of_gt (IsS94.lt (show IsS94 w0 _ g s0_0 t139 from by repeat (first | (with_reducible first | exact HI0.out | apply IsS94.alloc | apply IsS94.drewN | apply IsS94.drew | apply IsS94.set_1 | refine IsS94.far ?_ NB0_134.out _) | exact HI0.out))) : gb140 ≠ g)); clear HO138; clear HI0; clear BK134; clear HK; clear HB; have HO138 := n0_; have HI0 := n1_; have BK134 := n2_; have HK := n3_; have HB := n4_; have BK140 := n5_; have GW140 := n6_; have GE140 := n7_; have NB134_140 := n8_; have NB140_134 := n9_; have NB0_140 := n10_; have NB140_0 := n11_; clear n0_ n1_ n2_ n3_ n4_ n5_ n6_ n7_ n8_ n9_ n10_ n11_; clear hb hbox hg; have hnb55 := NB140_134.out; have hnc55 := NB134_140.out; have hnb56 := NB140_0.out; have hnc56 := NB0_140.out; have hcz57_0 : w54.cell? ⟨gb140, 0, none⟩ = some (.int .i64 0) := (Yd BK140.out 0).trans rfl; have hcz57_1 : w54.cell? ⟨gb140, 1, none⟩ = some (.slice none 0 0) := (Yd BK140.out 1).trans rfl; have hfz57_0 := Ye BK140.out 0; have hfz57_1 := Ye BK140.out 1; obtain ⟨Ao58, co58, eo58⟩ := Kd.R_slice HO138.out; subst eo58) | ((with_reducible refine gate_callee (f := 35) rfl ?_); refine goesL_ (some 11) rfl rfl Try.func35 (by kernel_rfl) rfl #[.pointer (some ⟨g, 0, none⟩), .int .i64 14] rfl (by (try simp only [List.map_toArray, List.map_cons, List.map_nil]); first | done | rfl | (simp only [List.length_drop, List.length_take]; rfl)) ?_; (with_reducible refine (spec_l40Rd_pick.calls k g s0_0 t139 14 t141 t142 w0 _ ?side1 ?side2 A4.out).mono ?_); (case side1 => repeat (first | (with_reducible first | exact HI0.out | apply IsS94.alloc | apply IsS94.drewN | apply IsS94.drew | apply IsS94.set_1 | refine IsS94.far ?_ NB0_134.out _ | refine IsS94.far ?_ NB0_140.out _) | exact HI0.out)); (case side2 => repeat (first | (with_reducible first | exact HB.out | apply Yf | apply Yg | apply Yh | refine Yi ?_ (IsS94.ge HI0.out) | refine Yi ?_ GE134.out | refine Yi ?_ GE140.out) | exact HB.out)); rintro e w59 ⟨rfl, hi, hb, hk⟩; refine ⟨_, rfl, ?_⟩; have n0_ := Yj (KeepBut.blk hk (g' := gb134) (o := .cells #[.int .i64 0, .slice none 0 0] 36 (0, 0)) (by (with_reducible repeat (first | refine Ya ?_ _ | refine Yb ?_ | refine Yc ?_ _)); refine blk_far ?_ NB134_140.out _; (with_reducible repeat (first | refine Ya ?_ _ | refine Yb ?_ | refine Yc ?_ _)); refine blk_far ?_ NB134_140.out _; (with_reducible repeat (first | refine Ya ?_ _ | refine Yb ?_ | refine Yc ?_ _)); exact BK134.out) NB134_0.out (by simp)); have n1_ := Yj (Kd.R_mono (Kd.R_keep (IsS94.apart (show IsS94 w0 _ g s0_0 t139 from by repeat (first | (with_reducible first | exact HI0.out | apply IsS94.alloc | apply IsS94.drewN | apply IsS94.drew | apply IsS94.set_1 | refine IsS94.far ?_ NB0_134.out _ | refine IsS94.far ?_ NB0_140.out _) | exact HI0.out)) (by (with_reducible repeat (first | apply Kd.R_alloc | apply Kd.R_drewN | apply Kd.R_drew)); exact (Kd.R_mono (Kd.R_far (p := ⟨gb140, 1, none⟩) (Kd.R_far (p := ⟨gb140, 0, none⟩) (Kd.R_types HO138.out BK140.out (by decide)) (fun _ hk => hk.2) (.int .i64 t135)) (fun _ hk => hk.2) (.slice Ao58 t136.length co58)) (fun _ h_ => h_.1))) (by decide)) hk (fun _ h => h.2)) (fun _ h => h.1)); have n2_ := Yj (KeepBut.blk hk (g' := gb140) (o := .cells #[.int .i64 t135, .slice Ao58 t136.length co58] 36 (0, 0)) (by (with_reducible repeat (first | refine Ya ?_ _ | refine Yb ?_ | refine Yc ?_ _)); refine blk_put (cs := #[.int .i64 t135, .slice none 0 0]) ?_ 1 _ rfl; (with_reducible repeat (first | refine Ya ?_ _ | refine Yb ?_ | refine Yc ?_ _)); refine blk_put (cs := #[.int .i64 0, .slice none 0 0]) ?_ 0 _ rfl; (with_reducible repeat (first | refine Ya ?_ _ | refine Yb ?_ | refine Yc ?_ _)); exact BK140.out) NB140_0.out (by simp)); have n3_ := Yj (KeepBut.trans (by repeat (first | (with_reducible first | exact HK.out | apply KeepBut.set_ | apply keep_drewN | apply keep_drew | apply keep_alloc | refine keep_far ?_ GW134.out _ | refine keep_far ?_ GW140.out _) | exact HK.out)) hk (.inl rfl)); have n4_ := Yj (hb); have n5_ := Yj (hi); clear BK134; clear HO138; clear BK140; clear HK; clear HB; clear HI0; have BK134 := n0_; have HO138 := n1_; have BK140 := n2_; have HK := n3_; have HB := n4_; have HI0 := n5_; clear n0_ n1_ n2_ n3_ n4_ n5_; (try clear hb); (try clear hb2); (try clear hk); (try clear hi); have hcz60_0 : w59.cell? ⟨gb140, 0, none⟩ = some (.int .i64 t135) := (Yd BK140.out 0).trans rfl; have hcz60_1 : w59.cell? ⟨gb140, 1, none⟩ = some (.slice Ao58 t136.length co58) := (Yd BK140.out 1).trans rfl; have hfz60_0 := Ye BK140.out 0; have hfz60_1 := Ye BK140.out 1; have hnb61 := NB134_0.out; have hnc61 := NB0_134.out; have hcz62_0 : w59.cell? ⟨gb134, 0, none⟩ = some (.int .i64 0) := (Yd BK134.out 0).trans rfl; have hcz62_1 : w59.cell? ⟨gb134, 1, none⟩ = some (.slice none 0 0) := (Yd BK134.out 1).trans rfl; have hfz62_0 := Ye BK134.out 0; have hfz62_1 := Ye BK134.out 1))
  refine bodyPost_ret (results_cell_row rfl _ _ gb134 36 #[.int .i64 t135, .slice Ao58 t136.length co58] (0, 0) _ rfl (by (with_reducible repeat (first | refine Ya ?_ _ | refine Yb ?_ | refine Yc ?_ _)); refine blk_put (cs := #[.int .i64 t135, .slice none 0 0]) ?_ 1 _ rfl; (with_reducible repeat (first | refine Ya ?_ _ | refine Yb ?_ | refine Yc ?_ _)); refine blk_put (cs := #[.int .i64 0, .slice none 0 0]) ?_ 0 _ rfl; (with_reducible repeat (first | refine Ya ?_ _ | refine Yb ?_ | refine Yc ?_ _)); exact BK134.out) Try.underlying36 rfl (by kernel_rfl)) rfl ?_
  exact ⟨_, by first | rfl | (simp [errW_none, errW_some] <;> rfl) | (simp [*, errW_none, errW_some] <;> rfl), by (with_reducible repeat (first | apply Kd.R_alloc | apply Kd.R_drewN | apply Kd.R_drew)); exact Kd.R_mono (Kd.R_far (p := ⟨gb134, 1, none⟩) (Kd.R_far (p := ⟨gb134, 0, none⟩) (Kd.R_types HO138.out BK134.out (by decide)) (fun _ hk => hk.2) (.int .i64 t135)) (fun _ hk => hk.2) (.slice Ao58 t136.length co58)) (fun _ hk => trivial), by repeat (first | (with_reducible first | exact HI0.out | apply IsS94.alloc | apply IsS94.drewN | apply IsS94.drew | apply IsS94.set_1 | refine IsS94.far ?_ NB0_134.out _ | refine IsS94.far ?_ NB0_140.out _) | exact HI0.out), by repeat (first | (with_reducible first | exact HB.out | apply Yf | apply Yg | apply Yh | refine Yi ?_ (IsS94.ge HI0.out) | refine Yi ?_ GE134.out | refine Yi ?_ GE140.out) | exact HB.out), by repeat (first | (with_reducible first | exact HK.out | apply KeepBut.set_ | apply keep_drewN | apply keep_drew | apply keep_alloc | refine keep_far ?_ GW134.out _ | refine keep_far ?_ GW140.out _) | exact HK.out)⟩

/-! ### spec_l7Some: function 33 -/
def spec_l7Some.f (k : Nat) (s0_0 : List Int) (s0_1 : Int) (a1_0 : Int) (l1_1 : List (S73)) : Option (Int × Int) := (spec_l7Nodes.f a1_0 l1_1).bind fun t159 => ((spec_l40Rd_pick.f k s0_0 s0_1 15).bind fun bt160 => (if bt160.1 = 0 then ((spec_l40Rd_num.f k s0_0 bt160.2 (([wrap64 (2 * t159), (-1)] : List Int))).bind fun bt165 => (some (bt165.1, bt165.2))) else ((spec_l40Rd_pick.f k s0_0 bt160.2 2).bind fun bt167 => (if bt167.1 = 0 then ((spec_l40Rd_pick.f k s0_0 bt167.2 4).bind fun bt169 => (some (wrap64 ((wrap64 ((wrap64 (2 * t159)) - 1)) - bt169.1), bt169.2))) else ((spec_l40Rd_pick.f k s0_0 bt167.2 (wrap64 (2 * t159))).bind fun bt171 => (some (bt171.1, bt171.2)))))))
theorem spec_l7Some.mono : ∀ a0 a1 a2 a3 k, LeO (spec_l7Some.f k a0 a1 a2 a3) (spec_l7Some.f (k + 1) a0 a1 a2 a3) := by
 intro a0 a1 a2 a3 k
 unfold spec_l7Some.f
 repeat' first
   | (with_reducible exact spec_l40Rd_num.mono _ _ _ _)
   | (with_reducible exact spec_l40Rd_pick.mono _ _ _ _)
   | (with_reducible exact LeO.refl _)
   | (with_reducible exact LeO.none _)
   | (with_reducible refine LeO.ite ?_ ?_)
   | (with_reducible refine LeO.bind ?_ (fun _ => ?_))
   | exact spec_l40Rd_num.mono _ _ _ _
   | exact spec_l40Rd_pick.mono _ _ _ _
   | exact LeO.none _
   | refine LeO.ite ?_ ?_
   | refine LeO.bind ?_ (fun _ => ?_)
set_option maxHeartbeats 8000000 in
set_option maxRecDepth 100000 in
theorem spec_l7Some.calls (k : Nat) (g : Nat) (s0_0 : List Int) (s0_1 : Int) (a1_0 : Int) (A1_1 : Option Addr) (c1_1 : Nat) (l1_1 : List (S73)) (r1 : Int) (r2 : Int) (w0 w : World) (hI : IsS94 w0 w g s0_0 s0_1) (hB : Below w0.heap.size w0 w) (hr1_1 : ∀ W_, KeepBut w W_ g none → Kd.C k73 W_ A1_1 l1_1.length l1_1) (hc1_1 : l1_1.length ≤ c1_1) (h : spec_l7Some.f k s0_0 s0_1 a1_0 l1_1 = some (r1, r2)) :
  Calls Try.prog 33 #[.pointer (some ⟨g, 0, none⟩), .agg #[.int .i64 a1_0, .slice A1_1 l1_1.length c1_1]] w fun e w' => e = .returned (.int .i64 r1) ∧ IsS94 w0 w' g s0_0 r2 ∧ Below w0.heap.size w0 w' ∧ KeepBut w w' g none := by
 have hu36 := Try.underlying36
 have HR1_1 := Yj hr1_1
 have HC1_1 := Yj hc1_1
 clear hr1_1 hc1_1
 have HI0 := Yj hI
 have HK := Yj (KeepBut.refl w g none)
 have HL := Yj hB.size
 clear hI
 have HW0 := Yj hB.size
 have HB := Yj hB
 clear hB
 have H : ((spec_l7Nodes.f a1_0 l1_1).bind fun t159 => ((spec_l40Rd_pick.f k s0_0 s0_1 15).bind fun bt160 => (if bt160.1 = 0 then ((spec_l40Rd_num.f k s0_0 bt160.2 (([wrap64 (2 * t159), (-1)] : List Int))).bind fun bt165 => (some (bt165.1, bt165.2))) else ((spec_l40Rd_pick.f k s0_0 bt160.2 2).bind fun bt167 => (if bt167.1 = 0 then ((spec_l40Rd_pick.f k s0_0 bt167.2 4).bind fun bt169 => (some (wrap64 ((wrap64 ((wrap64 (2 * t159)) - 1)) - bt169.1), bt169.2))) else ((spec_l40Rd_pick.f k s0_0 bt167.2 (wrap64 (2 * t159))).bind fun bt171 => (some (bt171.1, bt171.2)))))))) = some (r1, r2) := h
 clear h
 replace H := Yk H
 obtain ⟨t159, A30, H⟩ := H
 replace H : ((spec_l40Rd_pick.f k s0_0 s0_1 15).bind fun bt160 => (if bt160.1 = 0 then ((spec_l40Rd_num.f k s0_0 bt160.2 (([wrap64 (2 * t159), (-1)] : List Int))).bind fun bt165 => (some (bt165.1, bt165.2))) else ((spec_l40Rd_pick.f k s0_0 bt160.2 2).bind fun bt167 => (if bt167.1 = 0 then ((spec_l40Rd_pick.f k s0_0 bt167.2 4).bind fun bt169 => (some (wrap64 ((wrap64 ((wrap64 (2 * t159)) - 1)) - bt169.1), bt169.2))) else ((spec_l40Rd_pick.f k s0_0 bt167.2 (wrap64 (2 * t159))).bind fun bt171 => (some (bt171.1, bt171.2))))))) = some (r1, r2) := H
 have A3 := Yj A30
 clear A30
 replace H := Yk H
 obtain ⟨⟨t160, t161⟩, A40, H⟩ := H
 replace H : (if t160 = 0 then ((spec_l40Rd_num.f k s0_0 t161 (([wrap64 (2 * t159), (-1)] : List Int))).bind fun bt165 => (some (bt165.1, bt165.2))) else ((spec_l40Rd_pick.f k s0_0 t161 2).bind fun bt167 => (if bt167.1 = 0 then ((spec_l40Rd_pick.f k s0_0 bt167.2 4).bind fun bt169 => (some (wrap64 ((wrap64 ((wrap64 (2 * t159)) - 1)) - bt169.1), bt169.2))) else ((spec_l40Rd_pick.f k s0_0 bt167.2 (wrap64 (2 * t159))).bind fun bt171 => (some (bt171.1, bt171.2)))))) = some (r1, r2) := H
 have A4 := Yj A40
 clear A40
 by_cases c5 : t160 = 0
 ·rw [if_pos c5] at H
  have c5b0 : (t160 == 0) = true := beq_iff_eq.mpr c5
  have c5b1 : (t160 != 0) = false := bne_eq_false_iff_eq.mpr c5
  clear c5
  obtain ⟨y162, hy162⟩ : ∃ y_ : List Int, y_ = (([wrap64 (2 * t159), (-1)] : List Int)) := ⟨_, rfl⟩
  replace H : ((spec_l40Rd_num.f k s0_0 t161 y162).bind fun bt165 => (some (bt165.1, bt165.2))) = some (r1, r2) := by first | (rw [hy162]; with_reducible exact H) | (have H2_ := (Option.bind_some _ _).symm.trans H; rw [hy162]; with_reducible exact H2_) | (have H2_ := (Option.bind_some _ _).symm.trans H; with_reducible exact H2_) | with_reducible exact H | (rw [hy162]; exact H) | exact H
  have Ny162 := Yj hy162
  clear hy162
  replace H := Yk H
  obtain ⟨⟨t165, t166⟩, A60, H⟩ := H
  replace H : (some (t165, t166)) = some (r1, r2) := H
  have A6 := Yj A60
  clear A60
  simp only [Option.some.injEq, Prod.mk.injEq] at H
  obtain ⟨rfl, rfl⟩ := H
  go_enter Try.func33, Try.ntmps33
  go_wp2_with (first | ((with_reducible refine gate_dst (N := 3) rfl ?_); refine box_event ?hg (N := 3) ?hd (cs := #[.int .i64 a1_0, .slice A1_1 l1_1.length c1_1]) (t := 36) ?hr ?_; (case hd => rfl); (case hg => rfl); (case hr => first | (go_simp; done) | (go_simp; rfl)); intro gb158 hg w7 hbox hb; have n0_ := Yj (IsS94.below (by repeat (first | (with_reducible first | exact HI0.out | apply IsS94.alloc | apply IsS94.drewN | apply IsS94.drew | apply IsS94.set_1) | exact HI0.out)) hb); have n1_ := Yj (KeepBut.trans (by repeat (first | (with_reducible first | exact HK.out | apply KeepBut.set_ | apply keep_drewN | apply keep_drew | apply keep_alloc) | exact HK.out)) (KeepBut.of_below hb g none) (.inl rfl)); have n2_ := Yj (below_step (by repeat (first | (with_reducible first | exact HB.out | apply Yf | apply Yg | apply Yh | refine Yi ?_ (IsS94.ge HI0.out)) | exact HB.out)) hb); have n3_ := Yj (hbox); have n4_ := Yj ((by rw [hg]; exact (keep_size (w := w) (g := g) (row := none) (by repeat (first | (with_reducible first | exact HK.out | apply KeepBut.set_ | apply keep_drewN | apply keep_drew | apply keep_alloc) | exact HK.out))) : w.heap.size ≤ gb158)); have n5_ := Yj ((Nat.le_trans HW0.out (by rw [hg]; exact (keep_size (w := w) (g := g) (row := none) (by repeat (first | (with_reducible first | exact HK.out | apply KeepBut.set_ | apply keep_drewN | apply keep_drew | apply keep_alloc) | exact HK.out))) : w.heap.size ≤ gb158) : w0.heap.size ≤ gb158)); have n6_ := Yj ((by rw [hg]; exact Nat.ne_of_lt (IsS94.lt (show IsS94 w0 _ g s0_0 s0_1 from by repeat (first | (with_reducible first | exact HI0.out | apply IsS94.alloc | apply IsS94.drewN | apply IsS94.drew | apply IsS94.set_1) | exact HI0.out))) : g ≠ gb158)); have n7_ := Yj ((by rw [hg]; exact Nat.ne_of_gt (IsS94.lt (show IsS94 w0 _ g s0_0 s0_1 from by repeat (first | (with_reducible first | exact HI0.out | apply IsS94.alloc | apply IsS94.drewN | apply IsS94.drew | apply IsS94.set_1) | exact HI0.out))) : gb158 ≠ g)); clear HI0; clear HK; clear HB; have HI0 := n0_; have HK := n1_; have HB := n2_; have BK158 := n3_; have GW158 := n4_; have GE158 := n5_; have NB0_158 := n6_; have NB158_0 := n7_; clear n0_ n1_ n2_ n3_ n4_ n5_ n6_ n7_; clear hb hbox hg; have hnb8 := NB158_0.out; have hnc8 := NB0_158.out; have hcz9_0 : w7.cell? ⟨gb158, 0, none⟩ = some (.int .i64 a1_0) := (Yd BK158.out 0).trans rfl; have hcz9_1 : w7.cell? ⟨gb158, 1, none⟩ = some (.slice A1_1 l1_1.length c1_1) := (Yd BK158.out 1).trans rfl; have hfz9_0 := Ye BK158.out 0; have hfz9_1 := Ye BK158.out 1) | ((with_reducible refine gate_callee (f := 68) rfl ?_); refine goesL_ (some 7) rfl rfl Try.func68 (by kernel_rfl) rfl #[.agg #[.int .i64 a1_0, .slice A1_1 l1_1.length c1_1]] rfl (by (try simp only [List.map_toArray, List.map_cons, List.map_nil]); first | done | rfl | (simp only [List.length_drop, List.length_take]; rfl)) ?_; (with_reducible refine (spec_l7Nodes.calls a1_0 _ _ l1_1 t159 _ ?side1 ?side2 A3.out).mono ?_); (case side1 => exact Kd.C_foot_now HR1_1.out (by repeat (first | (with_reducible first | exact HK.out | apply KeepBut.set_ | apply keep_drewN | apply keep_drew | apply keep_alloc | refine keep_far ?_ GW158.out _) | exact HK.out))); (case side2 => exact HC1_1.out); rintro e w10 ⟨rfl, hb⟩; refine ⟨_, rfl, ?_⟩; have n0_ := Yj (IsS94.below (by repeat (first | (with_reducible first | exact HI0.out | apply IsS94.alloc | apply IsS94.drewN | apply IsS94.drew | apply IsS94.set_1 | refine IsS94.far ?_ NB0_158.out _) | exact HI0.out)) hb); have n1_ := Yj (blk_below (g := gb158) (o := .cells #[.int .i64 a1_0, .slice A1_1 l1_1.length c1_1] 36 (0, 0)) (by (with_reducible repeat (first | refine Ya ?_ _ | refine Yb ?_ | refine Yc ?_ _)); exact BK158.out) hb); have n2_ := Yj (KeepBut.trans (by repeat (first | (with_reducible first | exact HK.out | apply KeepBut.set_ | apply keep_drewN | apply keep_drew | apply keep_alloc | refine keep_far ?_ GW158.out _) | exact HK.out)) (KeepBut.of_below hb g none) (.inl rfl)); have n3_ := Yj (below_step (by repeat (first | (with_reducible first | exact HB.out | apply Yf | apply Yg | apply Yh | refine Yi ?_ (IsS94.ge HI0.out) | refine Yi ?_ GE158.out) | exact HB.out)) hb); clear HI0; clear BK158; clear HK; clear HB; have HI0 := n0_; have BK158 := n1_; have HK := n2_; have HB := n3_; clear n0_ n1_ n2_ n3_; (try clear hb); (try clear hb2); (try clear hk); (try clear hi)) | ((with_reducible refine gate_callee (f := 35) rfl ?_); refine goesL_ (some 10) rfl rfl Try.func35 (by kernel_rfl) rfl #[.pointer (some ⟨g, 0, none⟩), .int .i64 15] rfl (by (try simp only [List.map_toArray, List.map_cons, List.map_nil]); first | done | rfl | (simp only [List.length_drop, List.length_take]; rfl)) ?_; (with_reducible refine (spec_l40Rd_pick.calls k g s0_0 s0_1 15 t160 t161 w0 _ ?side1 ?side2 A4.out).mono ?_); (case side1 => repeat (first | (with_reducible first | exact HI0.out | apply IsS94.alloc | apply IsS94.drewN | apply IsS94.drew | apply IsS94.set_1 | refine IsS94.far ?_ NB0_158.out _) | exact HI0.out)); (case side2 => repeat (first | (with_reducible first | exact HB.out | apply Yf | apply Yg | apply Yh | refine Yi ?_ (IsS94.ge HI0.out) | refine Yi ?_ GE158.out) | exact HB.out)); rintro e w11 ⟨rfl, hi, hb, hk⟩; refine ⟨_, rfl, ?_⟩; have n0_ := Yj (KeepBut.blk hk (g' := gb158) (o := .cells #[.int .i64 a1_0, .slice A1_1 l1_1.length c1_1] 36 (0, 0)) (by (with_reducible repeat (first | refine Ya ?_ _ | refine Yb ?_ | refine Yc ?_ _)); exact BK158.out) NB158_0.out (by simp)); have n1_ := Yj (KeepBut.trans (by repeat (first | (with_reducible first | exact HK.out | apply KeepBut.set_ | apply keep_drewN | apply keep_drew | apply keep_alloc | refine keep_far ?_ GW158.out _) | exact HK.out)) hk (.inl rfl)); have n2_ := Yj (hb); have n3_ := Yj (hi); clear BK158; clear HK; clear HB; clear HI0; have BK158 := n0_; have HK := n1_; have HB := n2_; have HI0 := n3_; clear n0_ n1_ n2_ n3_; (try clear hb); (try clear hb2); (try clear hk); (try clear hi)) | ((with_reducible refine gate_dst (N := 14) rfl ?_); refine Kd.R_lit (Kd.int .i64) _ 3 ?hg (N := 14) ?hd (xs := ([wrap64 (2 * t159), (-1)] : List Int)) (inner := [.int .i64 (wrap64 (2 * t159)), .int .i64 (-1)]) (ok := fun _ => True) (okp := fun _ => True) ?hr ?hp (fun _ hk => hk) trivial (Below.refl _ _) (Nat.le_refl _) (by simp) ?_; (case hd => rfl); (case hg => rfl); (case hr => first | (go_simp; done) | (go_simp; rfl)); (case hp => exact (Reps.one (show Kd.M (Kd.int .i64) _ _ _ (wrap64 (2 * t159)) [.int .i64 (wrap64 (2 * t159))] from rfl) (Reps.one (show Kd.M (Kd.int .i64) _ _ _ (-1) [.int .i64 (-1)] from rfl) (Reps.none _ _)))); intro v163 w12 ho13 hb hg_ hnew_; clear hg_ hnew_; (first | rw [← Ny162.out] at ho13 | (simp only [Int.reduceToNat] at ho13; rw [← Ny162.out] at ho13)); have n0_ := Yj (Kd.R_lower ho13 (keep_size (w := w) (g := g) (row := none) (by repeat (first | (with_reducible first | exact HK.out | apply KeepBut.set_ | apply keep_drewN | apply keep_drew | apply keep_alloc | refine keep_far ?_ GW158.out _) | exact HK.out)))); have n1_ := Yj (IsS94.below (by repeat (first | (with_reducible first | exact HI0.out | apply IsS94.alloc | apply IsS94.drewN | apply IsS94.drew | apply IsS94.set_1 | refine IsS94.far ?_ NB0_158.out _) | exact HI0.out)) hb); have n2_ := Yj (blk_below (g := gb158) (o := .cells #[.int .i64 a1_0, .slice A1_1 l1_1.length c1_1] 36 (0, 0)) (by (with_reducible repeat (first | refine Ya ?_ _ | refine Yb ?_ | refine Yc ?_ _)); exact BK158.out) hb); have n3_ := Yj (KeepBut.trans (by repeat (first | (with_reducible first | exact HK.out | apply KeepBut.set_ | apply keep_drewN | apply keep_drew | apply keep_alloc | refine keep_far ?_ GW158.out _) | exact HK.out)) (KeepBut.of_below hb g none) (.inl rfl)); have n4_ := Yj (below_step (by repeat (first | (with_reducible first | exact HB.out | apply Yf | apply Yg | apply Yh | refine Yi ?_ (IsS94.ge HI0.out) | refine Yi ?_ GE158.out) | exact HB.out)) hb); clear HI0; clear BK158; clear HK; clear HB; have HO164 := n0_; have HI0 := n1_; have BK158 := n2_; have HK := n3_; have HB := n4_; clear n0_ n1_ n2_ n3_ n4_; clear hb ho13; obtain ⟨Ao14, co14, eo14⟩ := Kd.R_slice HO164.out; subst eo14) | ((with_reducible refine gate_callee (f := 67) rfl ?_); refine goesL_ (some 15) rfl rfl Try.func67 (by kernel_rfl) rfl #[.pointer (some ⟨g, 0, none⟩), .slice Ao14 y162.length co14] rfl (by (try simp only [List.map_toArray, List.map_cons, List.map_nil]); first | done | rfl | (simp only [List.length_drop, List.length_take]; rfl)) ?_; (with_reducible refine (spec_l40Rd_num.calls k g s0_0 t161 _ _ y162 t165 t166 w0 _ ?side1 ?side2 ?side3 ?side4 ?side5 A6.out).mono ?_); (case side1 => repeat (first | (with_reducible first | exact HI0.out | apply IsS94.alloc | apply IsS94.drewN | apply IsS94.drew | apply IsS94.set_1 | refine IsS94.far ?_ NB0_158.out _) | exact HI0.out)); (case side2 => repeat (first | (with_reducible first | exact HB.out | apply Yf | apply Yg | apply Yh | refine Yi ?_ (IsS94.ge HI0.out) | refine Yi ?_ GE158.out) | exact HB.out)); (case side3 => repeat (first | exact (Kd.R_reads' HO164.out).2.2 | (with_reducible refine Kd.C_alloc ?_ _) | (with_reducible refine Kd.C_drewN ?_ _) | (with_reducible refine Kd.C_drew ?_))); (case side4 => exact (Kd.R_reads' HO164.out).2.1); (case side5 => exact far_slice (IsS94.own_ne HI0.out HO164.out (by decide))); rintro e w15 ⟨rfl, hi, hb, hk⟩; refine ⟨_, rfl, ?_⟩; have n0_ := Yj (KeepBut.blk hk (g' := gb158) (o := .cells #[.int .i64 a1_0, .slice A1_1 l1_1.length c1_1] 36 (0, 0)) (by (with_reducible repeat (first | refine Ya ?_ _ | refine Yb ?_ | refine Yc ?_ _)); exact BK158.out) NB158_0.out (by simp)); have n1_ := Yj (Kd.R_mono (Kd.R_keep (IsS94.apart (show IsS94 w0 _ g s0_0 t161 from by repeat (first | (with_reducible first | exact HI0.out | apply IsS94.alloc | apply IsS94.drewN | apply IsS94.drew | apply IsS94.set_1 | refine IsS94.far ?_ NB0_158.out _) | exact HI0.out)) (by (with_reducible repeat (first | apply Kd.R_alloc | apply Kd.R_drewN | apply Kd.R_drew)); exact HO164.out) (by decide)) hk (fun _ h => h.2)) (fun _ h => h.1)); have n2_ := Yj (KeepBut.trans (by repeat (first | (with_reducible first | exact HK.out | apply KeepBut.set_ | apply keep_drewN | apply keep_drew | apply keep_alloc | refine keep_far ?_ GW158.out _) | exact HK.out)) hk (.inl rfl)); have n3_ := Yj (hb); have n4_ := Yj (hi); clear BK158; clear HO164; clear HK; clear HB; clear HI0; have BK158 := n0_; have HO164 := n1_; have HK := n2_; have HB := n3_; have HI0 := n4_; clear n0_ n1_ n2_ n3_ n4_; (try clear hb); (try clear hb2); (try clear hk); (try clear hi)))
  go_ret
  exact ⟨by first | rfl | (simp [errW_none, errW_some] <;> rfl) | (simp [*, errW_none, errW_some] <;> rfl), by repeat (first | (with_reducible first | exact HI0.out | apply IsS94.alloc | apply IsS94.drewN | apply IsS94.drew | apply IsS94.set_1 | refine IsS94.far ?_ NB0_158.out _) | exact HI0.out), by repeat (first | (with_reducible first | exact HB.out | apply Yf | apply Yg | apply Yh | refine Yi ?_ (IsS94.ge HI0.out) | refine Yi ?_ GE158.out) | exact HB.out), by repeat (first | (with_reducible first | exact HK.out | apply KeepBut.set_ | apply keep_drewN | apply keep_drew | apply keep_alloc | refine keep_far ?_ GW158.out _) | exact HK.out)⟩
 ·rw [if_neg c5] at H
  have c5b0 : (t160 == 0) = false := beq_eq_false_iff_ne.mpr c5
  have c5b1 : (t160 != 0) = true := bne_iff_ne.mpr c5
  replace H := Yk H
  obtain ⟨⟨t167, t168⟩, A160, H⟩ := H
  replace H : (if t167 = 0 then ((spec_l40Rd_pick.f k s0_0 t168 4).bind fun bt169 => (some (wrap64 ((wrap64 ((wrap64 (2 * t159)) - 1)) - bt169.1), bt169.2))) else ((spec_l40Rd_pick.f k s0_0 t168 (wrap64 (2 * t159))).bind fun bt171 => (some (bt171.1, bt171.2)))) = some (r1, r2) := H
  have A16 := Yj A160
  clear A160
  by_cases c17 : t167 = 0
  ·rw [if_pos c17] at H
   have c17b0 : (t167 == 0) = true := beq_iff_eq.mpr c17
   have c17b1 : (t167 != 0) = false := bne_eq_false_iff_eq.mpr c17
   clear c17
   replace H := Yk H
   obtain ⟨⟨t169, t170⟩, A180, H⟩ := H
   replace H : (some (wrap64 ((wrap64 ((wrap64 (2 * t159)) - 1)) - t169), t170)) = some (r1, r2) := H
   have A18 := Yj A180
   clear A180
   simp only [Option.some.injEq, Prod.mk.injEq] at H
   obtain ⟨rfl, rfl⟩ := H
   go_enter Try.func33, Try.ntmps33
   go_wp2_with (first | ((with_reducible refine gate_dst (N := 3) rfl ?_); refine box_event ?hg (N := 3) ?hd (cs := #[.int .i64 a1_0, .slice A1_1 l1_1.length c1_1]) (t := 36) ?hr ?_; (case hd => rfl); (case hg => rfl); (case hr => first | (go_simp; done) | (go_simp; rfl)); intro gb158 hg w19 hbox hb; have n0_ := Yj (IsS94.below (by repeat (first | (with_reducible first | exact HI0.out | apply IsS94.alloc | apply IsS94.drewN | apply IsS94.drew | apply IsS94.set_1) | exact HI0.out)) hb); have n1_ := Yj (KeepBut.trans (by repeat (first | (with_reducible first | exact HK.out | apply KeepBut.set_ | apply keep_drewN | apply keep_drew | apply keep_alloc) | exact HK.out)) (KeepBut.of_below hb g none) (.inl rfl)); have n2_ := Yj (below_step (by repeat (first | (with_reducible first | exact HB.out | apply Yf | apply Yg | apply Yh | refine Yi ?_ (IsS94.ge HI0.out)) | exact HB.out)) hb); have n3_ := Yj (hbox); have n4_ := Yj ((by rw [hg]; exact (keep_size (w := w) (g := g) (row := none) (by repeat (first | (with_reducible first | exact HK.out | apply KeepBut.set_ | apply keep_drewN | apply keep_drew | apply keep_alloc) | exact HK.out))) : w.heap.size ≤ gb158)); have n5_ := Yj ((Nat.le_trans HW0.out (by rw [hg]; exact (keep_size (w := w) (g := g) (row := none) (by repeat (first | (with_reducible first | exact HK.out | apply KeepBut.set_ | apply keep_drewN | apply keep_drew | apply keep_alloc) | exact HK.out))) : w.heap.size ≤ gb158) : w0.heap.size ≤ gb158)); have n6_ := Yj ((by rw [hg]; exact Nat.ne_of_lt (IsS94.lt (show IsS94 w0 _ g s0_0 s0_1 from by repeat (first | (with_reducible first | exact HI0.out | apply IsS94.alloc | apply IsS94.drewN | apply IsS94.drew | apply IsS94.set_1) | exact HI0.out))) : g ≠ gb158)); have n7_ := Yj ((by rw [hg]; exact Nat.ne_of_gt (IsS94.lt (show IsS94 w0 _ g s0_0 s0_1 from by repeat (first | (with_reducible first | exact HI0.out | apply IsS94.alloc | apply IsS94.drewN | apply IsS94.drew | apply IsS94.set_1) | exact HI0.out))) : gb158 ≠ g)); clear HI0; clear HK; clear HB; have HI0 := n0_; have HK := n1_; have HB := n2_; have BK158 := n3_; have GW158 := n4_; have GE158 := n5_; have NB0_158 := n6_; have NB158_0 := n7_; clear n0_ n1_ n2_ n3_ n4_ n5_ n6_ n7_; clear hb hbox hg; have hnb20 := NB158_0.out; have hnc20 := NB0_158.out; have hcz21_0 : w19.cell? ⟨gb158, 0, none⟩ = some (.int .i64 a1_0) := (Yd BK158.out 0).trans rfl; have hcz21_1 : w19.cell? ⟨gb158, 1, none⟩ = some (.slice A1_1 l1_1.length c1_1) := (Yd BK158.out 1).trans rfl; have hfz21_0 := Ye BK158.out 0; have hfz21_1 := Ye BK158.out 1) | ((with_reducible refine gate_callee (f := 68) rfl ?_); refine goesL_ (some 7) rfl rfl Try.func68 (by kernel_rfl) rfl #[.agg #[.int .i64 a1_0, .slice A1_1 l1_1.length c1_1]] rfl (by (try simp only [List.map_toArray, List.map_cons, List.map_nil]); first | done | rfl | (simp only [List.length_drop, List.length_take]; rfl)) ?_; (with_reducible refine (spec_l7Nodes.calls a1_0 _ _ l1_1 t159 _ ?side1 ?side2 A3.out).mono ?_); (case side1 => exact Kd.C_foot_now HR1_1.out (by repeat (first | (with_reducible first | exact HK.out | apply KeepBut.set_ | apply keep_drewN | apply keep_drew | apply keep_alloc | refine keep_far ?_ GW158.out _) | exact HK.out))); (case side2 => exact HC1_1.out); rintro e w22 ⟨rfl, hb⟩; refine ⟨_, rfl, ?_⟩; have n0_ := Yj (IsS94.below (by repeat (first | (with_reducible first | exact HI0.out | apply IsS94.alloc | apply IsS94.drewN | apply IsS94.drew | apply IsS94.set_1 | refine IsS94.far ?_ NB0_158.out _) | exact HI0.out)) hb); have n1_ := Yj (blk_below (g := gb158) (o := .cells #[.int .i64 a1_0, .slice A1_1 l1_1.length c1_1] 36 (0, 0)) (by (with_reducible repeat (first | refine Ya ?_ _ | refine Yb ?_ | refine Yc ?_ _)); exact BK158.out) hb); have n2_ := Yj (KeepBut.trans (by repeat (first | (with_reducible first | exact HK.out | apply KeepBut.set_ | apply keep_drewN | apply keep_drew | apply keep_alloc | refine keep_far ?_ GW158.out _) | exact HK.out)) (KeepBut.of_below hb g none) (.inl rfl)); have n3_ := Yj (below_step (by repeat (first | (with_reducible first | exact HB.out | apply Yf | apply Yg | apply Yh | refine Yi ?_ (IsS94.ge HI0.out) | refine Yi ?_ GE158.out) | exact HB.out)) hb); clear HI0; clear BK158; clear HK; clear HB; have HI0 := n0_; have BK158 := n1_; have HK := n2_; have HB := n3_; clear n0_ n1_ n2_ n3_; (try clear hb); (try clear hb2); (try clear hk); (try clear hi)) | ((with_reducible refine gate_callee (f := 35) rfl ?_); refine goesL_ (some 10) rfl rfl Try.func35 (by kernel_rfl) rfl #[.pointer (some ⟨g, 0, none⟩), .int .i64 15] rfl (by (try simp only [List.map_toArray, List.map_cons, List.map_nil]); first | done | rfl | (simp only [List.length_drop, List.length_take]; rfl)) ?_; (with_reducible refine (spec_l40Rd_pick.calls k g s0_0 s0_1 15 t160 t161 w0 _ ?side1 ?side2 A4.out).mono ?_); (case side1 => repeat (first | (with_reducible first | exact HI0.out | apply IsS94.alloc | apply IsS94.drewN | apply IsS94.drew | apply IsS94.set_1 | refine IsS94.far ?_ NB0_158.out _) | exact HI0.out)); (case side2 => repeat (first | (with_reducible first | exact HB.out | apply Yf | apply Yg | apply Yh | refine Yi ?_ (IsS94.ge HI0.out) | refine Yi ?_ GE158.out) | exact HB.out)); rintro e w23 ⟨rfl, hi, hb, hk⟩; refine ⟨_, rfl, ?_⟩; have n0_ := Yj (KeepBut.blk hk (g' := gb158) (o := .cells #[.int .i64 a1_0, .slice A1_1 l1_1.length c1_1] 36 (0, 0)) (by (with_reducible repeat (first | refine Ya ?_ _ | refine Yb ?_ | refine Yc ?_ _)); exact BK158.out) NB158_0.out (by simp)); have n1_ := Yj (KeepBut.trans (by repeat (first | (with_reducible first | exact HK.out | apply KeepBut.set_ | apply keep_drewN | apply keep_drew | apply keep_alloc | refine keep_far ?_ GW158.out _) | exact HK.out)) hk (.inl rfl)); have n2_ := Yj (hb); have n3_ := Yj (hi); clear BK158; clear HK; clear HB; clear HI0; have BK158 := n0_; have HK := n1_; have HB := n2_; have HI0 := n3_; clear n0_ n1_ n2_ n3_; (try clear hb); (try clear hb2); (try clear hk); (try clear hi)) | ((with_reducible refine gate_callee (f := 35) rfl ?_); refine goesL_ (some 17) rfl rfl Try.func35 (by kernel_rfl) rfl #[.pointer (some ⟨g, 0, none⟩), .int .i64 2] rfl (by (try simp only [List.map_toArray, List.map_cons, List.map_nil]); first | done | rfl | (simp only [List.length_drop, List.length_take]; rfl)) ?_; (with_reducible refine (spec_l40Rd_pick.calls k g s0_0 t161 2 t167 t168 w0 _ ?side1 ?side2 A16.out).mono ?_); (case side1 => repeat (first | (with_reducible first | exact HI0.out | apply IsS94.alloc | apply IsS94.drewN | apply IsS94.drew | apply IsS94.set_1 | refine IsS94.far ?_ NB0_158.out _) | exact HI0.out)); (case side2 => repeat (first | (with_reducible first | exact HB.out | apply Yf | apply Yg | apply Yh | refine Yi ?_ (IsS94.ge HI0.out) | refine Yi ?_ GE158.out) | exact HB.out)); rintro e w24 ⟨rfl, hi, hb, hk⟩; refine ⟨_, rfl, ?_⟩; have n0_ := Yj (KeepBut.blk hk (g' := gb158) (o := .cells #[.int .i64 a1_0, .slice A1_1 l1_1.length c1_1] 36 (0, 0)) (by (with_reducible repeat (first | refine Ya ?_ _ | refine Yb ?_ | refine Yc ?_ _)); exact BK158.out) NB158_0.out (by simp)); have n1_ := Yj (KeepBut.trans (by repeat (first | (with_reducible first | exact HK.out | apply KeepBut.set_ | apply keep_drewN | apply keep_drew | apply keep_alloc | refine keep_far ?_ GW158.out _) | exact HK.out)) hk (.inl rfl)); have n2_ := Yj (hb); have n3_ := Yj (hi); clear BK158; clear HK; clear HB; clear HI0; have BK158 := n0_; have HK := n1_; have HB := n2_; have HI0 := n3_; clear n0_ n1_ n2_ n3_; (try clear hb); (try clear hb2); (try clear hk); (try clear hi)) | ((with_reducible refine gate_callee (f := 35) rfl ?_); refine goesL_ (some 22) rfl rfl Try.func35 (by kernel_rfl) rfl #[.pointer (some ⟨g, 0, none⟩), .int .i64 4] rfl (by (try simp only [List.map_toArray, List.map_cons, List.map_nil]); first | done | rfl | (simp only [List.length_drop, List.length_take]; rfl)) ?_; (with_reducible refine (spec_l40Rd_pick.calls k g s0_0 t168 4 t169 t170 w0 _ ?side1 ?side2 A18.out).mono ?_); (case side1 => repeat (first | (with_reducible first | exact HI0.out | apply IsS94.alloc | apply IsS94.drewN | apply IsS94.drew | apply IsS94.set_1 | refine IsS94.far ?_ NB0_158.out _) | exact HI0.out)); (case side2 => repeat (first | (with_reducible first | exact HB.out | apply Yf | apply Yg | apply Yh | refine Yi ?_ (IsS94.ge HI0.out) | refine Yi ?_ GE158.out) | exact HB.out)); rintro e w25 ⟨rfl, hi, hb, hk⟩; refine ⟨_, rfl, ?_⟩; have n0_ := Yj (KeepBut.blk hk (g' := gb158) (o := .cells #[.int .i64 a1_0, .slice A1_1 l1_1.length c1_1] 36 (0, 0)) (by (with_reducible repeat (first | refine Ya ?_ _ | refine Yb ?_ | refine Yc ?_ _)); exact BK158.out) NB158_0.out (by simp)); have n1_ := Yj (KeepBut.trans (by repeat (first | (with_reducible first | exact HK.out | apply KeepBut.set_ | apply keep_drewN | apply keep_drew | apply keep_alloc | refine keep_far ?_ GW158.out _) | exact HK.out)) hk (.inl rfl)); have n2_ := Yj (hb); have n3_ := Yj (hi); clear BK158; clear HK; clear HB; clear HI0; have BK158 := n0_; have HK := n1_; have HB := n2_; have HI0 := n3_; clear n0_ n1_ n2_ n3_; (try clear hb); (try clear hb2); (try clear hk); (try clear hi)))
   go_ret
   exact ⟨by first | rfl | (simp [errW_none, errW_some] <;> rfl) | (simp [*, errW_none, errW_some] <;> rfl), by repeat (first | (with_reducible first | exact HI0.out | apply IsS94.alloc | apply IsS94.drewN | apply IsS94.drew | apply IsS94.set_1 | refine IsS94.far ?_ NB0_158.out _) | exact HI0.out), by repeat (first | (with_reducible first | exact HB.out | apply Yf | apply Yg | apply Yh | refine Yi ?_ (IsS94.ge HI0.out) | refine Yi ?_ GE158.out) | exact HB.out), by repeat (first | (with_reducible first | exact HK.out | apply KeepBut.set_ | apply keep_drewN | apply keep_drew | apply keep_alloc | refine keep_far ?_ GW158.out _) | exact HK.out)⟩
  ·rw [if_neg c17] at H
   have c17b0 : (t167 == 0) = false := beq_eq_false_iff_ne.mpr c17
   have c17b1 : (t167 != 0) = true := bne_iff_ne.mpr c17
   replace H := Yk H
   obtain ⟨⟨t171, t172⟩, A260, H⟩ := H
   replace H : (some (t171, t172)) = some (r1, r2) := H
   have A26 := Yj A260
   clear A260
   simp only [Option.some.injEq, Prod.mk.injEq] at H
   obtain ⟨rfl, rfl⟩ := H
   go_enter Try.func33, Try.ntmps33
   go_wp2_with (first | ((with_reducible refine gate_dst (N := 3) rfl ?_); refine box_event ?hg (N := 3) ?hd (cs := #[.int .i64 a1_0, .slice A1_1 l1_1.length c1_1]) (t := 36) ?hr ?_; (case hd => rfl); (case hg => rfl); (case hr => first | (go_simp; done) | (go_simp; rfl)); intro gb158 hg w27 hbox hb; have n0_ := Yj (IsS94.below (by repeat (first | (with_reducible first | exact HI0.out | apply IsS94.alloc | apply IsS94.drewN | apply IsS94.drew | apply IsS94.set_1) | exact HI0.out)) hb); have n1_ := Yj (KeepBut.trans (by repeat (first | (with_reducible first | exact HK.out | apply KeepBut.set_ | apply keep_drewN | apply keep_drew | apply keep_alloc) | exact HK.out)) (KeepBut.of_below hb g none) (.inl rfl)); have n2_ := Yj (below_step (by repeat (first | (with_reducible first | exact HB.out | apply Yf | apply Yg | apply Yh | refine Yi ?_ (IsS94.ge HI0.out)) | exact HB.out)) hb); have n3_ := Yj (hbox); have n4_ := Yj ((by rw [hg]; exact (keep_size (w := w) (g := g) (row := none) (by repeat (first | (with_reducible first | exact HK.out | apply KeepBut.set_ | apply keep_drewN | apply keep_drew | apply keep_alloc) | exact HK.out))) : w.heap.size ≤ gb158)); have n5_ := Yj ((Nat.le_trans HW0.out (by rw [hg]; exact (keep_size (w := w) (g := g) (row := none) (by repeat (first | (with_reducible first | exact HK.out | apply KeepBut.set_ | apply keep_drewN | apply keep_drew | apply keep_alloc) | exact HK.out))) : w.heap.size ≤ gb158) : w0.heap.size ≤ gb158)); have n6_ := Yj ((by rw [hg]; exact Nat.ne_of_lt (IsS94.lt (show IsS94 w0 _ g s0_0 s0_1 from by repeat (first | (with_reducible first | exact HI0.out | apply IsS94.alloc | apply IsS94.drewN | apply IsS94.drew | apply IsS94.set_1) | exact HI0.out))) : g ≠ gb158)); have n7_ := Yj ((by rw [hg]; exact Nat.ne_of_gt (IsS94.lt (show IsS94 w0 _ g s0_0 s0_1 from by repeat (first | (with_reducible first | exact HI0.out | apply IsS94.alloc | apply IsS94.drewN | apply IsS94.drew | apply IsS94.set_1) | exact HI0.out))) : gb158 ≠ g)); clear HI0; clear HK; clear HB; have HI0 := n0_; have HK := n1_; have HB := n2_; have BK158 := n3_; have GW158 := n4_; have GE158 := n5_; have NB0_158 := n6_; have NB158_0 := n7_; clear n0_ n1_ n2_ n3_ n4_ n5_ n6_ n7_; clear hb hbox hg; have hnb28 := NB158_0.out; have hnc28 := NB0_158.out; have hcz29_0 : w27.cell? ⟨gb158, 0, none⟩ = some (.int .i64 a1_0) := (Yd BK158.out 0).trans rfl; have hcz29_1 : w27.cell? ⟨gb158, 1, none⟩ = some (.slice A1_1 l1_1.length c1_1) := (Yd BK158.out 1).trans rfl; have hfz29_0 := Ye BK158.out 0; have hfz29_1 := Ye BK158.out 1) | ((with_reducible refine gate_callee (f := 68) rfl ?_); refine goesL_ (some 7) rfl rfl Try.func68 (by kernel_rfl) rfl #[.agg #[.int .i64 a1_0, .slice A1_1 l1_1.length c1_1]] rfl (by (try simp only [List.map_toArray, List.map_cons, List.map_nil]); first | done | rfl | (simp only [List.length_drop, List.length_take]; rfl)) ?_; (with_reducible refine (spec_l7Nodes.calls a1_0 _ _ l1_1 t159 _ ?side1 ?side2 A3.out).mono ?_); (case side1 => exact Kd.C_foot_now HR1_1.out (by repeat (first | (with_reducible first | exact HK.out | apply KeepBut.set_ | apply keep_drewN | apply keep_drew | apply keep_alloc | refine keep_far ?_ GW158.out _) | exact HK.out))); (case side2 => exact HC1_1.out); rintro e w30 ⟨rfl, hb⟩; refine ⟨_, rfl, ?_⟩; have n0_ := Yj (IsS94.below (by repeat (first | (with_reducible first | exact HI0.out | apply IsS94.alloc | apply IsS94.drewN | apply IsS94.drew | apply IsS94.set_1 | refine IsS94.far ?_ NB0_158.out _) | exact HI0.out)) hb); have n1_ := Yj (blk_below (g := gb158) (o := .cells #[.int .i64 a1_0, .slice A1_1 l1_1.length c1_1] 36 (0, 0)) (by (with_reducible repeat (first | refine Ya ?_ _ | refine Yb ?_ | refine Yc ?_ _)); exact BK158.out) hb); have n2_ := Yj (KeepBut.trans (by repeat (first | (with_reducible first | exact HK.out | apply KeepBut.set_ | apply keep_drewN | apply keep_drew | apply keep_alloc | refine keep_far ?_ GW158.out _) | exact HK.out)) (KeepBut.of_below hb g none) (.inl rfl)); have n3_ := Yj (below_step (by repeat (first | (with_reducible first | exact HB.out | apply Yf | apply Yg | apply Yh | refine Yi ?_ (IsS94.ge HI0.out) | refine Yi ?_ GE158.out) | exact HB.out)) hb); clear HI0; clear BK158; clear HK; clear HB; have HI0 := n0_; have BK158 := n1_; have HK := n2_; have HB := n3_; clear n0_ n1_ n2_ n3_; (try clear hb); (try clear hb2); (try clear hk); (try clear hi)) | ((with_reducible refine gate_callee (f := 35) rfl ?_); refine goesL_ (some 10) rfl rfl Try.func35 (by kernel_rfl) rfl #[.pointer (some ⟨g, 0, none⟩), .int .i64 15] rfl (by (try simp only [List.map_toArray, List.map_cons, List.map_nil]); first | done | rfl | (simp only [List.length_drop, List.length_take]; rfl)) ?_; (with_reducible refine (spec_l40Rd_pick.calls k g s0_0 s0_1 15 t160 t161 w0 _ ?side1 ?side2 A4.out).mono ?_); (case side1 => repeat (first | (with_reducible first | exact HI0.out | apply IsS94.alloc | apply IsS94.drewN | apply IsS94.drew | apply IsS94.set_1 | refine IsS94.far ?_ NB0_158.out _) | exact HI0.out)); (case side2 => repeat (first | (with_reducible first | exact HB.out | apply Yf | apply Yg | apply Yh | refine Yi ?_ (IsS94.ge HI0.out) | refine Yi ?_ GE158.out) | exact HB.out)); rintro e w31 ⟨rfl, hi, hb, hk⟩; refine ⟨_, rfl, ?_⟩; have n0_ := Yj (KeepBut.blk hk (g' := gb158) (o := .cells #[.int .i64 a1_0, .slice A1_1 l1_1.length c1_1] 36 (0, 0)) (by (with_reducible repeat (first | refine Ya ?_ _ | refine Yb ?_ | refine Yc ?_ _)); exact BK158.out) NB158_0.out (by simp)); have n1_ := Yj (KeepBut.trans (by repeat (first | (with_reducible first | exact HK.out | apply KeepBut.set_ | apply keep_drewN | apply keep_drew | apply keep_alloc | refine keep_far ?_ GW158.out _) | exact HK.out)) hk (.inl rfl)); have n2_ := Yj (hb); have n3_ := Yj (hi); clear BK158; clear HK; clear HB; clear HI0; have BK158 := n0_; have HK := n1_; have HB := n2_; have HI0 := n3_; clear n0_ n1_ n2_ n3_; (try clear hb); (try clear hb2); (try clear hk); (try clear hi)) | ((with_reducible refine gate_callee (f := 35) rfl ?_); refine goesL_ (some 17) rfl rfl Try.func35 (by kernel_rfl) rfl #[.pointer (some ⟨g, 0, none⟩), .int .i64 2] rfl (by (try simp only [List.map_toArray, List.map_cons, List.map_nil]); first | done | rfl | (simp only [List.length_drop, List.length_take]; rfl)) ?_; (with_reducible refine (spec_l40Rd_pick.calls k g s0_0 t161 2 t167 t168 w0 _ ?side1 ?side2 A16.out).mono ?_); (case side1 => repeat (first | (with_reducible first | exact HI0.out | apply IsS94.alloc | apply IsS94.drewN | apply IsS94.drew | apply IsS94.set_1 | refine IsS94.far ?_ NB0_158.out _) | exact HI0.out)); (case side2 => repeat (first | (with_reducible first | exact HB.out | apply Yf | apply Yg | apply Yh | refine Yi ?_ (IsS94.ge HI0.out) | refine Yi ?_ GE158.out) | exact HB.out)); rintro e w32 ⟨rfl, hi, hb, hk⟩; refine ⟨_, rfl, ?_⟩; have n0_ := Yj (KeepBut.blk hk (g' := gb158) (o := .cells #[.int .i64 a1_0, .slice A1_1 l1_1.length c1_1] 36 (0, 0)) (by (with_reducible repeat (first | refine Ya ?_ _ | refine Yb ?_ | refine Yc ?_ _)); exact BK158.out) NB158_0.out (by simp)); have n1_ := Yj (KeepBut.trans (by repeat (first | (with_reducible first | exact HK.out | apply KeepBut.set_ | apply keep_drewN | apply keep_drew | apply keep_alloc | refine keep_far ?_ GW158.out _) | exact HK.out)) hk (.inl rfl)); have n2_ := Yj (hb); have n3_ := Yj (hi); clear BK158; clear HK; clear HB; clear HI0; have BK158 := n0_; have HK := n1_; have HB := n2_; have HI0 := n3_; clear n0_ n1_ n2_ n3_; (try clear hb); (try clear hb2); (try clear hk); (try clear hi)) | ((with_reducible refine gate_callee (f := 35) rfl ?_); refine goesL_ (some 26) rfl rfl Try.func35 (by kernel_rfl) rfl #[.pointer (some ⟨g, 0, none⟩), .int .i64 (wrap64 (2 * t159))] rfl (by (try simp only [List.map_toArray, List.map_cons, List.map_nil]); first | done | rfl | (simp only [List.length_drop, List.length_take]; rfl)) ?_; (with_reducible refine (spec_l40Rd_pick.calls k g s0_0 t168 (wrap64 (2 * t159)) t171 t172 w0 _ ?side1 ?side2 A26.out).mono ?_); (case side1 => repeat (first | (with_reducible first | exact HI0.out | apply IsS94.alloc | apply IsS94.drewN | apply IsS94.drew | apply IsS94.set_1 | refine IsS94.far ?_ NB0_158.out _) | exact HI0.out)); (case side2 => repeat (first | (with_reducible first | exact HB.out | apply Yf | apply Yg | apply Yh | refine Yi ?_ (IsS94.ge HI0.out) | refine Yi ?_ GE158.out) | exact HB.out)); rintro e w33 ⟨rfl, hi, hb, hk⟩; refine ⟨_, rfl, ?_⟩; have n0_ := Yj (KeepBut.blk hk (g' := gb158) (o := .cells #[.int .i64 a1_0, .slice A1_1 l1_1.length c1_1] 36 (0, 0)) (by (with_reducible repeat (first | refine Ya ?_ _ | refine Yb ?_ | refine Yc ?_ _)); exact BK158.out) NB158_0.out (by simp)); have n1_ := Yj (KeepBut.trans (by repeat (first | (with_reducible first | exact HK.out | apply KeepBut.set_ | apply keep_drewN | apply keep_drew | apply keep_alloc | refine keep_far ?_ GW158.out _) | exact HK.out)) hk (.inl rfl)); have n2_ := Yj (hb); have n3_ := Yj (hi); clear BK158; clear HK; clear HB; clear HI0; have BK158 := n0_; have HK := n1_; have HB := n2_; have HI0 := n3_; clear n0_ n1_ n2_ n3_; (try clear hb); (try clear hb2); (try clear hk); (try clear hi)))
   go_ret
   exact ⟨by first | rfl | (simp [errW_none, errW_some] <;> rfl) | (simp [*, errW_none, errW_some] <;> rfl), by repeat (first | (with_reducible first | exact HI0.out | apply IsS94.alloc | apply IsS94.drewN | apply IsS94.drew | apply IsS94.set_1 | refine IsS94.far ?_ NB0_158.out _) | exact HI0.out), by repeat (first | (with_reducible first | exact HB.out | apply Yf | apply Yg | apply Yh | refine Yi ?_ (IsS94.ge HI0.out) | refine Yi ?_ GE158.out) | exact HB.out), by repeat (first | (with_reducible first | exact HK.out | apply KeepBut.set_ | apply keep_drewN | apply keep_drew | apply keep_alloc | refine keep_far ?_ GW158.out _) | exact HK.out)⟩

/-! ### spec_l7Edge: function 34 -/
def spec_l7Edge.f (a0_0 : Int) (l0_1 : List (S73)) (a1 : Int) : Option (Bool) := (spec_l7Nodes.f a0_0 l0_1).bind fun t174 => ((spec_l1In.f a1 0 (wrap64 ((wrap64 (2 * t174)) - 1))).bind fun t175 => (some t175))
set_option maxHeartbeats 8000000 in
set_option maxRecDepth 100000 in
theorem spec_l7Edge.calls (a0_0 : Int) (A0_1 : Option Addr) (c0_1 : Nat) (l0_1 : List (S73)) (a1 : Int) (r : Bool) (w : World) (hr0_1 : Kd.C k73 w A0_1 l0_1.length l0_1) (hc0_1 : l0_1.length ≤ c0_1) (h : spec_l7Edge.f a0_0 l0_1 a1 = some r) :
  Calls Try.prog 34 #[.agg #[.int .i64 a0_0, .slice A0_1 l0_1.length c0_1], .int .i64 a1] w fun e w' => e = .returned (.bool r) ∧ Below w.heap.size w w' := by
 have hu36 := Try.underlying36
 have HR0_1 := Yj hr0_1
 have HC0_1 := Yj hc0_1
 clear hr0_1 hc0_1
 have HB := Yj (Below.refl w.heap.size w)
 have H : ((spec_l7Nodes.f a0_0 l0_1).bind fun t174 => ((spec_l1In.f a1 0 (wrap64 ((wrap64 (2 * t174)) - 1))).bind fun t175 => (some t175))) = some r := h
 clear h
 replace H := Yk H
 obtain ⟨t174, A30, H⟩ := H
 replace H : ((spec_l1In.f a1 0 (wrap64 ((wrap64 (2 * t174)) - 1))).bind fun t175 => (some t175)) = some r := H
 have A3 := Yj A30
 clear A30
 replace H := Yk H
 obtain ⟨t175, A40, H⟩ := H
 replace H : (some t175) = some r := H
 have A4 := Yj A40
 clear A40
 obtain rfl := Option.some.inj H
 go_enter Try.func34, Try.ntmps34
 go_wp2_with (first | ((with_reducible refine gate_dst (N := 2) rfl ?_); refine box_event ?hg (N := 2) ?hd (cs := #[.int .i64 a0_0, .slice A0_1 l0_1.length c0_1]) (t := 36) ?hr ?_; (case hd => rfl); (case hg => rfl); (case hr => first | (go_simp; done) | (go_simp; rfl)); intro gb173 hg w5 hbox hb; have n0_ := Yj (below_step (by repeat (first | (with_reducible first | exact HB.out | apply Yf | apply Yg | apply Yh) | exact HB.out)) hb); have n1_ := Yj (hbox); have n2_ := Yj ((by rw [hg]; exact (below_size (by repeat (first | (with_reducible first | exact HB.out | apply Yf | apply Yg | apply Yh) | exact HB.out))) : w.heap.size ≤ gb173)); have n3_ := Yj ((by rw [hg]; exact (below_size (by repeat (first | (with_reducible first | exact HB.out | apply Yf | apply Yg | apply Yh) | exact HB.out))) : w.heap.size ≤ gb173)); clear HB; have HB := n0_; have BK173 := n1_; have GW173 := n2_; have GE173 := n3_; clear n0_ n1_ n2_ n3_; clear hb hbox hg; have hcz6_0 : w5.cell? ⟨gb173, 0, none⟩ = some (.int .i64 a0_0) := (Yd BK173.out 0).trans rfl; have hcz6_1 : w5.cell? ⟨gb173, 1, none⟩ = some (.slice A0_1 l0_1.length c0_1) := (Yd BK173.out 1).trans rfl; have hfz6_0 := Ye BK173.out 0; have hfz6_1 := Ye BK173.out 1) | ((with_reducible refine gate_callee (f := 68) rfl ?_); refine goesL_ (some 7) rfl rfl Try.func68 (by kernel_rfl) rfl #[.agg #[.int .i64 a0_0, .slice A0_1 l0_1.length c0_1]] rfl (by (try simp only [List.map_toArray, List.map_cons, List.map_nil]); first | done | rfl | (simp only [List.length_drop, List.length_take]; rfl)) ?_; (with_reducible refine (spec_l7Nodes.calls a0_0 _ _ l0_1 t174 _ ?side1 ?side2 A3.out).mono ?_); (case side1 => repeat (first | exact (Kd.C_below HR0_1.out HB.out) | (with_reducible refine Kd.C_alloc ?_ _) | (with_reducible refine Kd.C_drewN ?_ _) | (with_reducible refine Kd.C_drew ?_))); (case side2 => exact HC0_1.out); rintro e w7 ⟨rfl, hb⟩; refine ⟨_, rfl, ?_⟩; have n0_ := Yj (blk_below (g := gb173) (o := .cells #[.int .i64 a0_0, .slice A0_1 l0_1.length c0_1] 36 (0, 0)) (by (with_reducible repeat (first | refine Ya ?_ _ | refine Yb ?_ | refine Yc ?_ _)); exact BK173.out) hb); have n1_ := Yj (below_step (by repeat (first | (with_reducible first | exact HB.out | apply Yf | apply Yg | apply Yh | refine Yi ?_ GE173.out) | exact HB.out)) hb); clear BK173; clear HB; have BK173 := n0_; have HB := n1_; clear n0_ n1_; (try clear hb); (try clear hb2); (try clear hk); (try clear hi)) | ((with_reducible refine gate_callee (f := 48) rfl ?_); refine goesL_ (some 10) rfl rfl Try.func48 (by kernel_rfl) rfl #[.int .i64 a1, .int .i64 0, .int .i64 (wrap64 ((wrap64 (2 * t174)) - 1))] rfl (by (try simp only [List.map_toArray, List.map_cons, List.map_nil]); first | done | rfl | (simp only [List.length_drop, List.length_take]; rfl)) ?_; (with_reducible refine (spec_l1In.calls a1 0 (wrap64 ((wrap64 (2 * t174)) - 1)) t175 _ A4.out).mono ?_); rintro e w' ⟨rfl, ⟨nd, rfl⟩⟩; refine ⟨_, rfl, ?_⟩))
 go_ret
 exact ⟨by first | rfl | (simp [errW_none, errW_some] <;> rfl) | (simp [*, errW_none, errW_some] <;> rfl), by repeat (first | (with_reducible first | exact HB.out | apply Yf | apply Yg | apply Yh | refine Yi ?_ GE173.out) | exact HB.out)⟩

/-! ### spec_l7Find: function 70 -/
def spec_l7Find.l0 : Nat → Int → Int → Int → Int → List (S73) → Option (Int)
 | 0, _, _, _, _, _ => none
 | k + 1, x1, x2, x7, x177000, x177001 => if x7 < (x177001.length : Int) then (if 0 ≤ x7 then (if ((rd_T73 x177001 x7).f0) = x1 then (if ((rd_T73 x177001 x7).f1) = x2 then (some (wrap64 ((wrap64 (1 + x177000)) + x7))) else (spec_l7Find.l0 k x1 x2 (wrap64 (x7 + 1)) x177000 x177001)) else (spec_l7Find.l0 k x1 x2 (wrap64 (x7 + 1)) x177000 x177001)) else (none)) else (some (-1))
def spec_l7Find.f (k : Nat) (a0_0 : Int) (l0_1 : List (S73)) (a1 : Int) (a2 : Int) : Option (Int) := spec_l7Find.l0 k a1 a2 0 a0_0 l0_1
theorem spec_l7Find.mono_l : ∀ k, (∀ y0 y1 y2 y3 y4, LeO (spec_l7Find.l0 k y0 y1 y2 y3 y4) (spec_l7Find.l0 (k + 1) y0 y1 y2 y3 y4))
 | 0 => fun _ _ _ _ _ r h => by simp [spec_l7Find.l0] at h
 | k + 1 => by
  have ih0 := spec_l7Find.mono_l k
  ·intro y0 y1 y2 y3 y4
   unfold spec_l7Find.l0
   repeat' first
   | (with_reducible exact ih0 _ _ _ _ _)
   | (with_reducible exact LeO.refl _)
   | (with_reducible exact LeO.none _)
   | (with_reducible refine LeO.ite ?_ ?_)
   | (with_reducible refine LeO.bind ?_ (fun _ => ?_))
   | exact ih0 _ _ _ _ _
   | exact LeO.none _
   | refine LeO.ite ?_ ?_
   | refine LeO.bind ?_ (fun _ => ?_)
theorem spec_l7Find.mono : ∀ a0 a1 a2 a3 k, LeO (spec_l7Find.f k a0 a1 a2 a3) (spec_l7Find.f (k + 1) a0 a1 a2 a3) := by
 intro a0 a1 a2 a3 k
 have ih0 := spec_l7Find.mono_l k
 unfold spec_l7Find.f
 repeat' first
   | (with_reducible exact ih0 _ _ _ _ _)
   | (with_reducible exact LeO.refl _)
   | (with_reducible exact LeO.none _)
   | (with_reducible refine LeO.ite ?_ ?_)
   | (with_reducible refine LeO.bind ?_ (fun _ => ?_))
   | exact ih0 _ _ _ _ _
   | exact LeO.none _
   | refine LeO.ite ?_ ?_
   | refine LeO.bind ?_ (fun _ => ?_)
set_option maxHeartbeats 8000000 in
set_option maxRecDepth 100000 in
theorem spec_l7Find.calls (k : Nat) (a0_0 : Int) (A0_1 : Option Addr) (c0_1 : Nat) (l0_1 : List (S73)) (a1 : Int) (a2 : Int) (r : Int) (w : World) (hr0_1 : Kd.C k73 w A0_1 l0_1.length l0_1) (hc0_1 : l0_1.length ≤ c0_1) (h : spec_l7Find.f k a0_0 l0_1 a1 a2 = some r) :
  Calls Try.prog 70 #[.agg #[.int .i64 a0_0, .slice A0_1 l0_1.length c0_1], .int .i64 a1, .int .i64 a2] w fun e w' => e = .returned (.int .i64 r) ∧ Below w.heap.size w w' := by
 have hu36 := Try.underlying36
 have HR0_1 := Yj hr0_1
 have HC0_1 := Yj hc0_1
 clear hr0_1 hc0_1
 have HB := Yj (Below.refl w.heap.size w)
 have H : (spec_l7Find.l0 k a1 a2 0 a0_0 l0_1) = some r := h
 clear h
 have H' := Yj H
 clear H
 go_enter Try.func70, Try.ntmps70
 go_wp2_with (first | ((with_reducible refine gate_dst (N := 3) rfl ?_); refine box_event ?hg (N := 3) ?hd (cs := #[.int .i64 a0_0, .slice A0_1 l0_1.length c0_1]) (t := 36) ?hr ?_; (case hd => rfl); (case hg => rfl); (case hr => first | (go_simp; done) | (go_simp; rfl)); intro gb176 hg w4 hbox hb; have n0_ := Yj (below_step (by repeat (first | (with_reducible first | exact HB.out | apply Yf | apply Yg | apply Yh) | exact HB.out)) hb); have n1_ := Yj (hbox); have n2_ := Yj ((by rw [hg]; exact (below_size (by repeat (first | (with_reducible first | exact HB.out | apply Yf | apply Yg | apply Yh) | exact HB.out))) : w.heap.size ≤ gb176)); have n3_ := Yj ((by rw [hg]; exact (below_size (by repeat (first | (with_reducible first | exact HB.out | apply Yf | apply Yg | apply Yh) | exact HB.out))) : w.heap.size ≤ gb176)); clear HB; have HB := n0_; have BK176 := n1_; have GW176 := n2_; have GE176 := n3_; clear n0_ n1_ n2_ n3_; clear hb hbox hg))
 go_loopg [7] k (fun kq v7 w' => ∃ (x7_1 : Int), v7 = .int .i64 x7_1 ∧ Aside0 (spec_l7Find.l0 kq a1 a2 x7_1 a0_0 l0_1 = some r) ∧ Aside0 (kq ≤ k) ∧ Aside0 (w'.heap[gb176]? = some (.cells #[.int .i64 a0_0, (.slice A0_1 l0_1.length c0_1)] 36 (0, 0))) ∧ Aside0 (Below w.heap.size w w'))
 case atStart => exact ⟨(0), (by first | rfl | (simp; done) | (simp [*]; done)), H', ⟨Nat.le_refl _⟩, ⟨by (with_reducible repeat (first | refine Ya ?_ _ | refine Yb ?_ | refine Yc ?_ _)); exact BK176.out⟩, ⟨by repeat (first | (with_reducible first | exact HB.out | apply Yf | apply Yg | apply Yh | refine Yi ?_ GE176.out) | exact HB.out)⟩⟩
 case round =>
  clear H'
  try clear p2
  obtain ⟨x7_1, rfl, HA, HK1, BK176, HB⟩ := hrel
  cases gk with
  | zero => exact absurd HA.out (by simp [spec_l7Find.l0])
  | succ k1 =>
   have H := HA.out
   clear HA
   simp only [spec_l7Find.l0] at H
   by_cases c5 : x7_1 < (l0_1.length : Int)
   ·rw [if_pos c5] at H
    have c5b0 : decide (x7_1 < (l0_1.length : Int)) = true := decide_eq_true c5
    clear c5
    by_cases c6 : 0 ≤ x7_1
    ·rw [if_pos c6] at H
     have c6b0 : decide (0 ≤ x7_1) = true := decide_eq_true c6
     clear c6
     by_cases c7 : ((rd_T73 l0_1 x7_1).f0) = a1
     ·rw [if_pos c7] at H
      have c7b0 : (((rd_T73 l0_1 x7_1).f0) == a1) = true := beq_iff_eq.mpr c7
      have c7b1 : (((rd_T73 l0_1 x7_1).f0) != a1) = false := bne_eq_false_iff_eq.mpr c7
      clear c7
      by_cases c8 : ((rd_T73 l0_1 x7_1).f1) = a2
      ·rw [if_pos c8] at H
       have c8b0 : (((rd_T73 l0_1 x7_1).f1) == a2) = true := beq_iff_eq.mpr c8
       have c8b1 : (((rd_T73 l0_1 x7_1).f1) != a2) = false := bne_eq_false_iff_eq.mpr c8
       clear c8
       obtain rfl := Option.some.inj H
       have hcz9_0 : wr.cell? ⟨gb176, 0, none⟩ = some (.int .i64 a0_0) := (Yd BK176.out 0).trans rfl
       have hcz9_1 : wr.cell? ⟨gb176, 1, none⟩ = some (.slice A0_1 l0_1.length c0_1) := (Yd BK176.out 1).trans rfl
       have hfz9_0 := Ye BK176.out 0
       have hfz9_1 := Ye BK176.out 1
       have p177 : 0 ≤ (x7_1 : Int) := of_decide_eq_true (by first | (with_reducible assumption) | assumption)
       have q177 : x7_1 < (l0_1.length : Int) := of_decide_eq_true (by first | (with_reducible assumption) | assumption)
       obtain ⟨ad177, e177, hx177_0, hx177_1⟩ := at_T73 HR0_1.out x7_1 p177 q177
       cases e177
       replace hx177_0 := (HB.out.cell (Yl w _ hx177_0)).trans hx177_0
       replace hx177_1 := (HB.out.cell (Yl w _ hx177_1)).trans hx177_1
       replace p177 := eq_true p177
       replace q177 := eq_true q177
       have p178 : 0 ≤ (x7_1 : Int) := of_decide_eq_true (by first | (with_reducible assumption) | assumption)
       have q178 : x7_1 < (l0_1.length : Int) := of_decide_eq_true (by first | (with_reducible assumption) | assumption)
       obtain ⟨ad178, e178, hx178_0, hx178_1⟩ := at_T73 HR0_1.out x7_1 p178 q178
       obtain rfl : ad177 = ad178 := (by injection e178)
       replace hx178_0 := (HB.out.cell (Yl w _ hx178_0)).trans hx178_0
       replace hx178_1 := (HB.out.cell (Yl w _ hx178_1)).trans hx178_1
       replace p178 := eq_true p178
       replace q178 := eq_true q178
       go_wp2
       go_ret
       exact ⟨by first | rfl | (simp [errW_none, errW_some] <;> rfl) | (simp [*, errW_none, errW_some] <;> rfl), by repeat (first | (with_reducible first | exact HB.out | apply Yf | apply Yg | apply Yh | refine Yi ?_ GE176.out) | exact HB.out)⟩
      ·rw [if_neg c8] at H
       have c8b0 : (((rd_T73 l0_1 x7_1).f1) == a2) = false := beq_eq_false_iff_ne.mpr c8
       have c8b1 : (((rd_T73 l0_1 x7_1).f1) != a2) = true := bne_iff_ne.mpr c8
       have H' := Yj H
       clear H
       have hcz10_0 : wr.cell? ⟨gb176, 0, none⟩ = some (.int .i64 a0_0) := (Yd BK176.out 0).trans rfl
       have hcz10_1 : wr.cell? ⟨gb176, 1, none⟩ = some (.slice A0_1 l0_1.length c0_1) := (Yd BK176.out 1).trans rfl
       have hfz10_0 := Ye BK176.out 0
       have hfz10_1 := Ye BK176.out 1
       have p177 : 0 ≤ (x7_1 : Int) := of_decide_eq_true (by first | (with_reducible assumption) | assumption)
       have q177 : x7_1 < (l0_1.length : Int) := of_decide_eq_true (by first | (with_reducible assumption) | assumption)
       obtain ⟨ad177, e177, hx177_0, hx177_1⟩ := at_T73 HR0_1.out x7_1 p177 q177
       cases e177
       replace hx177_0 := (HB.out.cell (Yl w _ hx177_0)).trans hx177_0
       replace hx177_1 := (HB.out.cell (Yl w _ hx177_1)).trans hx177_1
       replace p177 := eq_true p177
       replace q177 := eq_true q177
       have p178 : 0 ≤ (x7_1 : Int) := of_decide_eq_true (by first | (with_reducible assumption) | assumption)
       have q178 : x7_1 < (l0_1.length : Int) := of_decide_eq_true (by first | (with_reducible assumption) | assumption)
       obtain ⟨ad178, e178, hx178_0, hx178_1⟩ := at_T73 HR0_1.out x7_1 p178 q178
       obtain rfl : ad177 = ad178 := (by injection e178)
       replace hx178_0 := (HB.out.cell (Yl w _ hx178_0)).trans hx178_0
       replace hx178_1 := (HB.out.cell (Yl w _ hx178_1)).trans hx178_1
       replace p178 := eq_true p178
       replace q178 := eq_true q178
       go_wp2
       go_roundg k1
       case measure => have := HK1.out; omega
       case rel => exact ⟨(wrap64 (x7_1 + 1)), (by first | rfl | (simp; done) | (simp [*]; done)), H', ⟨by have := HK1.out; omega⟩, ⟨by (with_reducible repeat (first | refine Ya ?_ _ | refine Yb ?_ | refine Yc ?_ _)); exact BK176.out⟩, ⟨by repeat (first | (with_reducible first | exact HB.out | apply Yf | apply Yg | apply Yh | refine Yi ?_ GE176.out) | exact HB.out)⟩⟩
     ·rw [if_neg c7] at H
      have c7b0 : (((rd_T73 l0_1 x7_1).f0) == a1) = false := beq_eq_false_iff_ne.mpr c7
      have c7b1 : (((rd_T73 l0_1 x7_1).f0) != a1) = true := bne_iff_ne.mpr c7
      have H' := Yj H
      clear H
      have hcz11_0 : wr.cell? ⟨gb176, 0, none⟩ = some (.int .i64 a0_0) := (Yd BK176.out 0).trans rfl
      have hcz11_1 : wr.cell? ⟨gb176, 1, none⟩ = some (.slice A0_1 l0_1.length c0_1) := (Yd BK176.out 1).trans rfl
      have hfz11_0 := Ye BK176.out 0
      have hfz11_1 := Ye BK176.out 1
      have p177 : 0 ≤ (x7_1 : Int) := of_decide_eq_true (by first | (with_reducible assumption) | assumption)
      have q177 : x7_1 < (l0_1.length : Int) := of_decide_eq_true (by first | (with_reducible assumption) | assumption)
      obtain ⟨ad177, e177, hx177_0, hx177_1⟩ := at_T73 HR0_1.out x7_1 p177 q177
      cases e177
      replace hx177_0 := (HB.out.cell (Yl w _ hx177_0)).trans hx177_0
      replace hx177_1 := (HB.out.cell (Yl w _ hx177_1)).trans hx177_1
      replace p177 := eq_true p177
      replace q177 := eq_true q177
      go_wp2
      go_roundg k1
      case measure => have := HK1.out; omega
      case rel => exact ⟨(wrap64 (x7_1 + 1)), (by first | rfl | (simp; done) | (simp [*]; done)), H', ⟨by have := HK1.out; omega⟩, ⟨by (with_reducible repeat (first | refine Ya ?_ _ | refine Yb ?_ | refine Yc ?_ _)); exact BK176.out⟩, ⟨by repeat (first | (with_reducible first | exact HB.out | apply Yf | apply Yg | apply Yh | refine Yi ?_ GE176.out) | exact HB.out)⟩⟩
    ·rw [if_neg c6] at H
     exact absurd H (by simp)
   ·rw [if_neg c5] at H
    have c5b0 : decide (x7_1 < (l0_1.length : Int)) = false := decide_eq_false c5
    clear c5
    obtain rfl := Option.some.inj H
    have hcz12_0 : wr.cell? ⟨gb176, 0, none⟩ = some (.int .i64 a0_0) := (Yd BK176.out 0).trans rfl
    have hcz12_1 : wr.cell? ⟨gb176, 1, none⟩ = some (.slice A0_1 l0_1.length c0_1) := (Yd BK176.out 1).trans rfl
    have hfz12_0 := Ye BK176.out 0
    have hfz12_1 := Ye BK176.out 1
    go_wp2
    go_ret
    exact ⟨by first | rfl | (simp [errW_none, errW_some] <;> rfl) | (simp [*, errW_none, errW_some] <;> rfl), by repeat (first | (with_reducible first | exact HB.out | apply Yf | apply Yg | apply Yh | refine Yi ?_ GE176.out) | exact HB.out)⟩

end Go.Proofs.Ythphgkhmeobadab.XFnSameEdges
