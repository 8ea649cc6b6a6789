/- Printed by a program of this session out of the translation: the Go functions that a law uses as plain Lean functions, with the proofs of their calls, or the law's row.
Conditions: those that each theorem states. -/
import Derived.Test.YthphgkhmeobadaaXFnAddAndOrx0
import Derived.Test.YthphgkhmeobadaaXFnAddAndOrx1
import Derived.Test.YthphgkhmeobadaaXFnAddAndOrx7
import Derived.Test.YthphgkhmeobadaaXFnAddAndOrx8
namespace Go.Proofs.Ythphgkhmeobadaa.XFnAddAndOr
open Go.RowKit Go.Proofs.YthphgkhmeobadaaW.PrintWords Go.Proofs.YthphgkhmeobadaaW.PrintLast Go.Proofs.YthphgkhmeobadaaW.PrintMore
attribute [local go_sem] max2_int min2_int max_two min_two max_three min_three max_four min_four   -- for this text's walks alone
set_option linter.unusedVariables false
set_option linter.unusedSimpArgs false

/-! ### spec_l7Any: function 34 -/
def spec_l7Any.j0 : Nat → Bool → List Int → Int → Int → List (S57) → Option (Int × (List (S57)) × Int)
 | 0, _, _, _, _, _ => none
 | k + 1, x21, x1000, x1001, x191000, x191001 => if x21 = true then ((spec_l40Rd_num.f k x1000 x1001 (([(-1), 13] : List Int))).bind fun bt198 => (some (bt198.1, x191001, bt198.2))) else ((spec_l40Rd_pick.f k x1000 x1001 (x191001.length : Int)).bind fun bt200 => ((spec_l40Rd_num.f k x1000 bt200.2 (([(-1), wrap64 (2 * (wrap64 ((wrap64 (1 + x191000)) + bt200.1)))] : List Int))).bind fun bt205 => (if 0 ≤ bt200.1 then (if bt200.1 < (x191001.length : Int) then (some (x191000, (x191001.set (bt200.1 : Int).toNat (⟨bt205.1, 0⟩ : S57)), bt205.2)) else (none)) else (none))))
def spec_l7Any.f (k : Nat) (s0_0 : List Int) (s0_1 : Int) (a1 : Int) : Option (Int × (List (S57)) × Int) := (spec_l7Draw.f k s0_0 s0_1 a1).bind fun bt185 => ((spec_l40Rd_pick.f k s0_0 bt185.2.2 14).bind fun bt191 => (if bt191.1 = 0 then ((spec_l40Rd_pick.f k s0_0 bt191.2 2).bind fun bt193 => (if bt193.1 = 0 then (spec_l7Any.j0 k true s0_0 bt193.2 bt185.1 bt185.2.1) else (spec_l7Any.j0 k ((bt185.2.1.length : Int) == 0) s0_0 bt193.2 bt185.1 bt185.2.1))) else (some (bt185.1, bt185.2.1, bt191.2))))
theorem spec_l7Any.mono_l : ∀ k, (∀ y0 y1 y2 y3 y4, LeO (spec_l7Any.j0 k y0 y1 y2 y3 y4) (spec_l7Any.j0 (k + 1) y0 y1 y2 y3 y4))
 | 0 => fun _ _ _ _ _ r h => by simp [spec_l7Any.j0] at h
 | k + 1 => by
  have ih0 := spec_l7Any.mono_l k
  ·intro y0 y1 y2 y3 y4
   unfold spec_l7Any.j0
   repeat' first
   | (with_reducible exact ih0 _ _ _ _ _)
   | (with_reducible exact spec_l40Rd_num.mono _ _ _ _)
   | (with_reducible exact spec_l40Rd_pick.mono _ _ _ _)
   | (with_reducible exact spec_l7Draw.mono _ _ _ _)
   | (with_reducible exact LeO.refl _)
   | (with_reducible exact LeO.none _)
   | (with_reducible refine LeO.ite ?_ ?_)
   | (with_reducible refine LeO.bind ?_ (fun _ => ?_))
   | exact ih0 _ _ _ _ _
   | exact spec_l40Rd_num.mono _ _ _ _
   | exact spec_l40Rd_pick.mono _ _ _ _
   | exact spec_l7Draw.mono _ _ _ _
   | exact LeO.none _
   | refine LeO.ite ?_ ?_
   | refine LeO.bind ?_ (fun _ => ?_)
theorem spec_l7Any.mono : ∀ a0 a1 a2 k, LeO (spec_l7Any.f k a0 a1 a2) (spec_l7Any.f (k + 1) a0 a1 a2) := by
 intro a0 a1 a2 k
 have ih0 := spec_l7Any.mono_l k
 unfold spec_l7Any.f
 repeat' first
   | (with_reducible exact ih0 _ _ _ _ _)
   | (with_reducible exact spec_l40Rd_num.mono _ _ _ _)
   | (with_reducible exact spec_l40Rd_pick.mono _ _ _ _)
   | (with_reducible exact spec_l7Draw.mono _ _ _ _)
   | (with_reducible exact LeO.refl _)
   | (with_reducible exact LeO.none _)
   | (with_reducible refine LeO.ite ?_ ?_)
   | (with_reducible refine LeO.bind ?_ (fun _ => ?_))
   | exact ih0 _ _ _ _ _
   | exact spec_l40Rd_num.mono _ _ _ _
   | exact spec_l40Rd_pick.mono _ _ _ _
   | exact spec_l7Draw.mono _ _ _ _
   | exact LeO.none _
   | refine LeO.ite ?_ ?_
   | refine LeO.bind ?_ (fun _ => ?_)
def spec_l7Any.T6 : Bool × List (List Nat × List Nat) := (true, [([], []), ([0], [0]), ([], []), ([], []), ([], []), ([4], [4]), ([5], [5]), ([], []), ([6, 7], [6, 7]), ([8], [8]), ([9], [9]), ([3, 10], [3, 10]), ([11], [11]), ([1, 2, 0, 1, 2, 3, 4, 5, 6, 7, 8, 9, 10, 11, 12], [1, 2]), ([13, 12, 11, 0, 1, 2, 3, 4, 5, 6, 7, 8, 9, 10, 11, 12], [12, 13])])
def spec_l7Any.B6 : List Nat := [0, 1, 0, 0, 0, 16, 48, 0, 240, 496, 1008, 2040, 4088, 8191, 16383]
theorem spec_l7Any.tab6 : rtab .any (opsOf Try.f34 6) = spec_l7Any.T6 := by kernel_rfl
theorem spec_l7Any.bits6 : waitsOk spec_l7Any.T6.2 spec_l7Any.B6 = true := by kernel_rfl
set_option maxHeartbeats 8000000 in
set_option maxRecDepth 100000 in
theorem spec_l7Any.calls (k : Nat) (g : Nat) (s0_0 : List Int) (s0_1 : Int) (a1 : Int) (r1 : Int) (r2 : List (S57)) (r3 : Int) (w0 w : World) (hI : IsS71 w0 w g s0_0 s0_1) (hB : Below w0.heap.size w0 w) (h : spec_l7Any.f k s0_0 s0_1 a1 = some (r1, r2, r3)) :
  Calls Try.prog 34 #[.pointer (some ⟨g, 0, none⟩), .int .i64 a1] w fun e w' => ∃ v1_ : Value, e = .returned (.agg #[.int .i64 r1, v1_]) ∧ Kd.R k57 57 w' w.heap.size (fun _ => True) v1_ r2 ∧ IsS71 w0 w' g s0_0 r3 ∧ Below w0.heap.size w0 w' ∧ KeepBut w w' g none := by
 have hu28 := Try.underlying28
 have hu57 := Try.underlying57
 have HI0 := Yj hI
 have HK := Yj (KeepBut.refl w g none)
 have HL := Yj hB.size
 clear hI
 have HW0 := Yj hB.size
 have HB := Yj hB
 clear hB
 have H : ((spec_l7Draw.f k s0_0 s0_1 a1).bind fun bt185 => ((spec_l40Rd_pick.f k s0_0 bt185.2.2 14).bind fun bt191 => (if bt191.1 = 0 then ((spec_l40Rd_pick.f k s0_0 bt191.2 2).bind fun bt193 => (if bt193.1 = 0 then (spec_l7Any.j0 k true s0_0 bt193.2 bt185.1 bt185.2.1) else (spec_l7Any.j0 k ((bt185.2.1.length : Int) == 0) s0_0 bt193.2 bt185.1 bt185.2.1))) else (some (bt185.1, bt185.2.1, bt191.2))))) = some (r1, r2, r3) := h
 clear h
 replace H := Option.bind_eq_some_iff.mp H
 obtain ⟨⟨t185, t186, t189⟩, A30, H⟩ := H
 replace H : ((spec_l40Rd_pick.f k s0_0 t189 14).bind fun bt191 => (if bt191.1 = 0 then ((spec_l40Rd_pick.f k s0_0 bt191.2 2).bind fun bt193 => (if bt193.1 = 0 then (spec_l7Any.j0 k true s0_0 bt193.2 t185 t186) else (spec_l7Any.j0 k ((t186.length : Int) == 0) s0_0 bt193.2 t185 t186))) else (some (t185, t186, bt191.2)))) = some (r1, r2, r3) := H
 have A3 := Yj A30
 clear A30
 replace H := Option.bind_eq_some_iff.mp H
 obtain ⟨⟨t191, t192⟩, A40, H⟩ := H
 replace H : (if t191 = 0 then ((spec_l40Rd_pick.f k s0_0 t192 2).bind fun bt193 => (if bt193.1 = 0 then (spec_l7Any.j0 k true s0_0 bt193.2 t185 t186) else (spec_l7Any.j0 k ((t186.length : Int) == 0) s0_0 bt193.2 t185 t186))) else (some (t185, t186, t192))) = some (r1, r2, r3) := H
 have A4 := Yj A40
 clear A40
 by_cases c5 : t191 = 0
 ·rw [if_pos c5] at H
  have c5b0 : (t191 == 0) = true := beq_iff_eq.mpr c5
  have c5b1 : (t191 != 0) = false := bne_eq_false_iff_eq.mpr c5
  clear c5
  have HC6 := Yj H
  clear H
  go_enter Try.func34, Try.ntmps34
  go_upto_region 3 with (first | ((with_reducible refine gate_dst (N := 4) rfl ?_); (try (refine gate_guard (by rfl) ?_; dsimp only)); refine box_event ?hg (N := 4) ?hd (cs := #[.int .i64 0, .slice none 0 0]) (t := 28) ?hr ?_; (case hd => rfl); (case hg => rfl); (case hr => first | (go_simp; done) | (go_simp; rfl)); intro gb184 hg w7 hbox hb; have n0_ := Yj (IsS71.below (by repeat (first | (with_reducible first | exact HI0.out | apply IsS71.alloc | apply IsS71.drewN | apply IsS71.drew | apply IsS71.set_1) | exact HI0.out)) hb); have n1_ := Yj (KeepBut.trans (by repeat (first | (with_reducible first | exact HK.out | apply KeepBut.set_ | apply keep_drewN | apply keep_drew | apply keep_alloc) | exact HK.out)) (KeepBut.of_below hb g none) (.inl rfl)); have n2_ := Yj (below_step (by repeat (first | (with_reducible first | exact HB.out | apply Yf | apply Yg | apply Yh | refine Yi ?_ (IsS71.ge HI0.out)) | exact HB.out)) hb); have n3_ := Yj (hbox); have n4_ := Yj ((by rw [hg]; exact (keep_size (w := w) (g := g) (row := none) (by repeat (first | (with_reducible first | exact HK.out | apply KeepBut.set_ | apply keep_drewN | apply keep_drew | apply keep_alloc) | exact HK.out))) : w.heap.size ≤ gb184)); have n5_ := Yj ((Nat.le_trans HW0.out (by rw [hg]; exact (keep_size (w := w) (g := g) (row := none) (by repeat (first | (with_reducible first | exact HK.out | apply KeepBut.set_ | apply keep_drewN | apply keep_drew | apply keep_alloc) | exact HK.out))) : w.heap.size ≤ gb184) : w0.heap.size ≤ gb184)); have n6_ := Yj ((by rw [hg]; exact Nat.ne_of_lt (IsS71.lt (show IsS71 w0 _ g s0_0 s0_1 from by repeat (first | (with_reducible first | exact HI0.out | apply IsS71.alloc | apply IsS71.drewN | apply IsS71.drew | apply IsS71.set_1) | exact HI0.out))) : g ≠ gb184)); have n7_ := Yj ((by rw [hg]; exact Nat.ne_of_gt (IsS71.lt (show IsS71 w0 _ g s0_0 s0_1 from by repeat (first | (with_reducible first | exact HI0.out | apply IsS71.alloc | apply IsS71.drewN | apply IsS71.drew | apply IsS71.set_1) | exact HI0.out))) : gb184 ≠ g)); clear HI0; clear HK; clear HB; have HI0 := n0_; have HK := n1_; have HB := n2_; have BK184 := n3_; have GW184 := n4_; have GE184 := n5_; have NB0_184 := n6_; have NB184_0 := n7_; clear n0_ n1_ n2_ n3_ n4_ n5_ n6_ n7_; clear hb hbox hg) | ((with_reducible refine gate_callee (f := 46) rfl ?_); refine goesL_ (some 9) rfl rfl Try.func46 (by kernel_rfl) rfl #[.pointer (some ⟨g, 0, none⟩), .int .i64 a1] rfl (by (try simp only [List.map_toArray, List.map_cons, List.map_nil]); first | done | rfl | (simp only [List.length_drop, List.length_take]; rfl)) ?_; (with_reducible refine (spec_l7Draw.calls k g s0_0 s0_1 a1 t185 t186 t189 w0 _ ?side1 ?side2 A3.out).mono ?_); (case side1 => repeat (first | (with_reducible first | exact HI0.out | apply IsS71.alloc | apply IsS71.drewN | apply IsS71.drew | apply IsS71.set_1 | refine IsS71.far ?_ NB0_184.out _) | exact HI0.out)); (case side2 => repeat (first | (with_reducible first | exact HB.out | apply Yf | apply Yg | apply Yh | refine Yi ?_ (IsS71.ge HI0.out) | refine Yi ?_ GE184.out) | exact HB.out)); rintro e w8 ⟨v187, rfl, ho0, hi, hb, hk⟩; refine ⟨_, rfl, ?_⟩; have n0_ := Yj (KeepBut.blk hk (g' := gb184) (o := .cells #[.int .i64 0, .slice none 0 0] 28 (0, 0)) (by (with_reducible repeat (first | refine Ya ?_ _ | refine Yb ?_ | refine Yc ?_ _)); exact BK184.out) NB184_0.out (by simp)); have n1_ := Yj (Kd.R_lower ho0 (keep_size (w := w) (g := g) (row := none) (by repeat (first | (with_reducible first | exact HK.out | apply KeepBut.set_ | apply keep_drewN | apply keep_drew | apply keep_alloc | refine keep_far ?_ GW184.out _) | exact HK.out)))); have n2_ := Yj (KeepBut.trans (by repeat (first | (with_reducible first | exact HK.out | apply KeepBut.set_ | apply keep_drewN | apply keep_drew | apply keep_alloc | refine keep_far ?_ GW184.out _) | exact HK.out)) hk (.inl rfl)); have n3_ := Yj (hb); have n4_ := Yj (hi); clear BK184; clear HK; clear HB; clear HI0; have BK184 := n0_; have HO188 := n1_; have HK := n2_; have HB := n3_; have HI0 := n4_; clear n0_ n1_ n2_ n3_ n4_; (try clear hb); (try clear hb2); (try clear hk); (try clear hi); (try clear ho0)) | ((with_reducible refine gate_dst (N := 5) rfl ?_); (try (refine gate_guard (by rfl) ?_; dsimp only)); refine box_event ?hg (N := 5) ?hd (cs := #[.int .i64 0, .slice none 0 0]) (t := 28) ?hr ?_; (case hd => rfl); (case hg => rfl); (case hr => first | (go_simp; done) | (go_simp; rfl)); intro gb190 hg w9 hbox hb; have n0_ := Yj (Kd.R_below (by (with_reducible repeat (first | apply Yl | apply Yk | apply Kd.R_drew)); exact HO188.out) hb); have n1_ := Yj (IsS71.below (by repeat (first | (with_reducible first | exact HI0.out | apply IsS71.alloc | apply IsS71.drewN | apply IsS71.drew | apply IsS71.set_1 | refine IsS71.far ?_ NB0_184.out _) | exact HI0.out)) hb); have n2_ := Yj (blk_below (g := gb184) (o := .cells #[.int .i64 0, .slice none 0 0] 28 (0, 0)) (by (with_reducible repeat (first | refine Ya ?_ _ | refine Yb ?_ | refine Yc ?_ _)); exact BK184.out) hb); have n3_ := Yj (KeepBut.trans (by repeat (first | (with_reducible first | exact HK.out | apply KeepBut.set_ | apply keep_drewN | apply keep_drew | apply keep_alloc | refine keep_far ?_ GW184.out _) | exact HK.out)) (KeepBut.of_below hb g none) (.inl rfl)); have n4_ := Yj (below_step (by repeat (first | (with_reducible first | exact HB.out | apply Yf | apply Yg | apply Yh | refine Yi ?_ (IsS71.ge HI0.out) | refine Yi ?_ GE184.out) | exact HB.out)) hb); have n5_ := Yj (hbox); have n6_ := Yj ((by rw [hg]; exact (keep_size (w := w) (g := g) (row := none) (by repeat (first | (with_reducible first | exact HK.out | apply KeepBut.set_ | apply keep_drewN | apply keep_drew | apply keep_alloc | refine keep_far ?_ GW184.out _) | exact HK.out))) : w.heap.size ≤ gb190)); have n7_ := Yj ((Nat.le_trans HW0.out (by rw [hg]; exact (keep_size (w := w) (g := g) (row := none) (by repeat (first | (with_reducible first | exact HK.out | apply KeepBut.set_ | apply keep_drewN | apply keep_drew | apply keep_alloc | refine keep_far ?_ GW184.out _) | exact HK.out))) : w.heap.size ≤ gb190) : w0.heap.size ≤ gb190)); have n8_ := Yj ((by rw [hg]; exact Nat.ne_of_lt (blk_lt (g := gb184) (o := .cells #[.int .i64 0, .slice none 0 0] 28 (0, 0)) (by (with_reducible repeat (first | refine Ya ?_ _ | refine Yb ?_ | refine Yc ?_ _)); exact BK184.out)) : gb184 ≠ gb190)); have n9_ := Yj ((by rw [hg]; exact Nat.ne_of_gt (blk_lt (g := gb184) (o := .cells #[.int .i64 0, .slice none 0 0] 28 (0, 0)) (by (with_reducible repeat (first | refine Ya ?_ _ | refine Yb ?_ | refine Yc ?_ _)); exact BK184.out)) : gb190 ≠ gb184)); have n10_ := Yj ((by rw [hg]; exact Nat.ne_of_lt (IsS71.lt (show IsS71 w0 _ g s0_0 t189 from by repeat (first | (with_reducible first | exact HI0.out | apply IsS71.alloc | apply IsS71.drewN | apply IsS71.drew | apply IsS71.set_1 | refine IsS71.far ?_ NB0_184.out _) | exact HI0.out))) : g ≠ gb190)); have n11_ := Yj ((by rw [hg]; exact Nat.ne_of_gt (IsS71.lt (show IsS71 w0 _ g s0_0 t189 from by repeat (first | (with_reducible first | exact HI0.out | apply IsS71.alloc | apply IsS71.drewN | apply IsS71.drew | apply IsS71.set_1 | refine IsS71.far ?_ NB0_184.out _) | exact HI0.out))) : gb190 ≠ g)); clear HO188; clear HI0; clear BK184; clear HK; clear HB; have HO188 := n0_; have HI0 := n1_; have BK184 := n2_; have HK := n3_; have HB := n4_; have BK190 := n5_; have GW190 := n6_; have GE190 := n7_; have NB184_190 := n8_; have NB190_184 := n9_; have NB0_190 := n10_; have NB190_0 := n11_; clear n0_ n1_ n2_ n3_ n4_ n5_ n6_ n7_ n8_ n9_ n10_ n11_; clear hb hbox hg; have hnb10 := NB190_184.out; have hnc10 := NB184_190.out; have hnb11 := NB190_0.out; have hnc11 := NB0_190.out; have hcz12_0 : w9.cell? ⟨gb190, 0, none⟩ = some (.int .i64 0) := (Yd BK190.out 0).trans rfl; have hcz12_1 : w9.cell? ⟨gb190, 1, none⟩ = some (.slice none 0 0) := (Yd BK190.out 1).trans rfl; have hfz12_0 := Ye BK190.out 0; have hfz12_1 := Ye BK190.out 1; obtain ⟨Ao13, co13, eo13⟩ := Kd.R_slice HO188.out; subst eo13) | ((with_reducible refine gate_callee (f := 35) rfl ?_); refine goesL_ (some 11) rfl rfl Try.func35 (by kernel_rfl) rfl #[.pointer (some ⟨g, 0, none⟩), .int .i64 14] rfl (by (try simp only [List.map_toArray, List.map_cons, List.map_nil]); first | done | rfl | (simp only [List.length_drop, List.length_take]; rfl)) ?_; (with_reducible refine (spec_l40Rd_pick.calls k g s0_0 t189 14 t191 t192 w0 _ ?side1 ?side2 A4.out).mono ?_); (case side1 => repeat (first | (with_reducible first | exact HI0.out | apply IsS71.alloc | apply IsS71.drewN | apply IsS71.drew | apply IsS71.set_1 | refine IsS71.far ?_ NB0_184.out _ | refine IsS71.far ?_ NB0_190.out _) | exact HI0.out)); (case side2 => repeat (first | (with_reducible first | exact HB.out | apply Yf | apply Yg | apply Yh | refine Yi ?_ (IsS71.ge HI0.out) | refine Yi ?_ GE184.out | refine Yi ?_ GE190.out) | exact HB.out)); rintro e w14 ⟨rfl, hi, hb, hk⟩; refine ⟨_, rfl, ?_⟩; have n0_ := Yj (KeepBut.blk hk (g' := gb184) (o := .cells #[.int .i64 0, .slice none 0 0] 28 (0, 0)) (by (with_reducible repeat (first | refine Ya ?_ _ | refine Yb ?_ | refine Yc ?_ _)); refine blk_far ?_ NB184_190.out _; (with_reducible repeat (first | refine Ya ?_ _ | refine Yb ?_ | refine Yc ?_ _)); refine blk_far ?_ NB184_190.out _; (with_reducible repeat (first | refine Ya ?_ _ | refine Yb ?_ | refine Yc ?_ _)); exact BK184.out) NB184_0.out (by simp)); have n1_ := Yj (Kd.R_mono (Kd.R_keep (IsS71.apart (show IsS71 w0 _ g s0_0 t189 from by repeat (first | (with_reducible first | exact HI0.out | apply IsS71.alloc | apply IsS71.drewN | apply IsS71.drew | apply IsS71.set_1 | refine IsS71.far ?_ NB0_184.out _ | refine IsS71.far ?_ NB0_190.out _) | exact HI0.out)) (by (with_reducible repeat (first | apply Yl | apply Yk | apply Kd.R_drew)); exact (Kd.R_mono (Kd.R_far (p := ⟨gb190, 1, none⟩) (Kd.R_far (p := ⟨gb190, 0, none⟩) (Kd.R_types HO188.out BK190.out (by decide)) (fun _ hk => hk.2) (.int .i64 t185)) (fun _ hk => hk.2) (.slice Ao13 t186.length co13)) (fun _ h_ => h_.1))) (by decide)) hk (fun _ h => h.2)) (fun _ h => h.1)); have n2_ := Yj (KeepBut.blk hk (g' := gb190) (o := .cells #[.int .i64 t185, .slice Ao13 t186.length co13] 28 (0, 0)) (by (with_reducible repeat (first | refine Ya ?_ _ | refine Yb ?_ | refine Yc ?_ _)); refine blk_put (cs := #[.int .i64 t185, .slice none 0 0]) ?_ 1 _ rfl; (with_reducible repeat (first | refine Ya ?_ _ | refine Yb ?_ | refine Yc ?_ _)); refine blk_put (cs := #[.int .i64 0, .slice none 0 0]) ?_ 0 _ rfl; (with_reducible repeat (first | refine Ya ?_ _ | refine Yb ?_ | refine Yc ?_ _)); exact BK190.out) NB190_0.out (by simp)); have n3_ := Yj (KeepBut.trans (by repeat (first | (with_reducible first | exact HK.out | apply KeepBut.set_ | apply keep_drewN | apply keep_drew | apply keep_alloc | refine keep_far ?_ GW184.out _ | refine keep_far ?_ GW190.out _) | exact HK.out)) hk (.inl rfl)); have n4_ := Yj (hb); have n5_ := Yj (hi); clear BK184; clear HO188; clear BK190; clear HK; clear HB; clear HI0; have BK184 := n0_; have HO188 := n1_; have BK190 := n2_; have HK := n3_; have HB := n4_; have HI0 := n5_; clear n0_ n1_ n2_ n3_ n4_ n5_; (try clear hb); (try clear hb2); (try clear hk); (try clear hi)))
  (try simp only [Act.put, List.setIfInBounds_toArray, List.set_cons_zero, List.set_cons_succ])
  go_cut [21] (fun v21 wc => ∃ (kq : Nat) (x21_5 : Bool) (x1001_5 : Int), v21 = .bool x21_5 ∧ Aside0 (spec_l7Any.j0 kq x21_5 s0_0 x1001_5 t185 t186 = some (r1, r2, r3)) ∧ Aside0 (kq ≤ k) ∧ Aside0 (Kd.R k57 57 wc w.heap.size (fun _ => True) (.slice Ao13 t186.length co13) t186) ∧ Aside0 (wc.heap[gb184]? = some (.cells #[.int .i64 0, (.slice none 0 0)] 28 (0, 0))) ∧ Aside0 (wc.heap[gb190]? = some (.cells #[.int .i64 t185, (.slice Ao13 t186.length co13)] 28 (0, 0))) ∧ Aside0 (IsS71 w0 wc g s0_0 x1001_5) ∧ Aside0 (KeepBut w wc g none) ∧ Aside0 (Below w0.heap.size w0 wc))
  case first =>
   have H := HC6.out
   clear HC6
   replace H := Option.bind_eq_some_iff.mp H
   obtain ⟨⟨t193, t194⟩, A150, H⟩ := H
   replace H : (if t193 = 0 then (spec_l7Any.j0 k true s0_0 t194 t185 t186) else (spec_l7Any.j0 k ((t186.length : Int) == 0) s0_0 t194 t185 t186)) = some (r1, r2, r3) := H
   have A15 := Yj A150
   clear A150
   by_cases c16 : t193 = 0
   ·rw [if_pos c16] at H
    have c16b0 : (t193 == 0) = true := beq_iff_eq.mpr c16
    have c16b1 : (t193 != 0) = false := bne_eq_false_iff_eq.mpr c16
    clear c16
    (first | rw [c16b0] | (simp only [i64_w, i32_w]; rw [c16b0]) | rw [c16b1] | simp only [c16b1] | skip)
    have H' := Yj H
    clear H
    go_wp2_with (first | ((with_reducible refine gate_callee (f := 35) rfl ?_); refine goesL_ (some 14) rfl rfl Try.func35 (by kernel_rfl) rfl #[.pointer (some ⟨g, 0, none⟩), .int .i64 2] rfl (by (try simp only [List.map_toArray, List.map_cons, List.map_nil]); first | done | rfl | (simp only [List.length_drop, List.length_take]; rfl)) ?_; (with_reducible refine (spec_l40Rd_pick.calls k g s0_0 t192 2 t193 t194 w0 _ ?side1 ?side2 A15.out).mono ?_); (case side1 => repeat (first | (with_reducible first | exact HI0.out | apply IsS71.alloc | apply IsS71.drewN | apply IsS71.drew | apply IsS71.set_1 | refine IsS71.far ?_ NB0_184.out _ | refine IsS71.far ?_ NB0_190.out _) | exact HI0.out)); (case side2 => repeat (first | (with_reducible first | exact HB.out | apply Yf | apply Yg | apply Yh | refine Yi ?_ (IsS71.ge HI0.out) | refine Yi ?_ GE184.out | refine Yi ?_ GE190.out) | exact HB.out)); rintro e w17 ⟨rfl, hi, hb, hk⟩; refine ⟨_, rfl, ?_⟩; have n0_ := Yj (KeepBut.blk hk (g' := gb184) (o := .cells #[.int .i64 0, .slice none 0 0] 28 (0, 0)) (by (with_reducible repeat (first | refine Ya ?_ _ | refine Yb ?_ | refine Yc ?_ _)); exact BK184.out) NB184_0.out (by simp)); have n1_ := Yj (Kd.R_mono (Kd.R_keep (IsS71.apart (show IsS71 w0 _ g s0_0 t192 from by repeat (first | (with_reducible first | exact HI0.out | apply IsS71.alloc | apply IsS71.drewN | apply IsS71.drew | apply IsS71.set_1 | refine IsS71.far ?_ NB0_184.out _ | refine IsS71.far ?_ NB0_190.out _) | exact HI0.out)) (by (with_reducible repeat (first | apply Yl | apply Yk | apply Kd.R_drew)); exact HO188.out) (by decide)) hk (fun _ h => h.2)) (fun _ h => h.1)); have n2_ := Yj (KeepBut.blk hk (g' := gb190) (o := .cells #[.int .i64 t185, .slice Ao13 t186.length co13] 28 (0, 0)) (by (with_reducible repeat (first | refine Ya ?_ _ | refine Yb ?_ | refine Yc ?_ _)); exact BK190.out) NB190_0.out (by simp)); have n3_ := Yj (KeepBut.trans (by repeat (first | (with_reducible first | exact HK.out | apply KeepBut.set_ | apply keep_drewN | apply keep_drew | apply keep_alloc | refine keep_far ?_ GW184.out _ | refine keep_far ?_ GW190.out _) | exact HK.out)) hk (.inl rfl)); have n4_ := Yj (hb); have n5_ := Yj (hi); clear BK184; clear HO188; clear BK190; clear HK; clear HB; clear HI0; have BK184 := n0_; have HO188 := n1_; have BK190 := n2_; have HK := n3_; have HB := n4_; have HI0 := n5_; clear n0_ n1_ n2_ n3_ n4_ n5_; (try clear hb); (try clear hb2); (try clear hk); (try clear hi)))
    go_meet
    case rel => exact ⟨_, (true), (t194), (by first | rfl | (simp; done) | (simp [*]; done)), H', ⟨by first | omega | exact Nat.le_refl _⟩, ⟨by (with_reducible repeat (first | apply Yl | apply Yk | apply Kd.R_drew)); exact HO188.out⟩, ⟨by (with_reducible repeat (first | refine Ya ?_ _ | refine Yb ?_ | refine Yc ?_ _)); exact BK184.out⟩, ⟨by (with_reducible repeat (first | refine Ya ?_ _ | refine Yb ?_ | refine Yc ?_ _)); exact BK190.out⟩, ⟨by repeat (first | (with_reducible first | exact HI0.out | apply IsS71.alloc | apply IsS71.drewN | apply IsS71.drew | apply IsS71.set_1 | refine IsS71.far ?_ NB0_184.out _ | refine IsS71.far ?_ NB0_190.out _) | exact HI0.out)⟩, ⟨by repeat (first | (with_reducible first | exact HK.out | apply KeepBut.set_ | apply keep_drewN | apply keep_drew | apply keep_alloc | refine keep_far ?_ GW184.out _ | refine keep_far ?_ GW190.out _) | exact HK.out)⟩, ⟨by repeat (first | (with_reducible first | exact HB.out | apply Yf | apply Yg | apply Yh | refine Yi ?_ (IsS71.ge HI0.out) | refine Yi ?_ GE184.out | refine Yi ?_ GE190.out) | exact HB.out)⟩⟩
   ·rw [if_neg c16] at H
    have c16b0 : (t193 == 0) = false := beq_eq_false_iff_ne.mpr c16
    have c16b1 : (t193 != 0) = true := bne_iff_ne.mpr c16
    (first | rw [c16b0] | (simp only [i64_w, i32_w]; rw [c16b0]) | rw [c16b1] | simp only [c16b1] | skip)
    have H' := Yj H
    clear H
    go_wp2_with (first | ((with_reducible refine gate_callee (f := 35) rfl ?_); refine goesL_ (some 14) rfl rfl Try.func35 (by kernel_rfl) rfl #[.pointer (some ⟨g, 0, none⟩), .int .i64 2] rfl (by (try simp only [List.map_toArray, List.map_cons, List.map_nil]); first | done | rfl | (simp only [List.length_drop, List.length_take]; rfl)) ?_; (with_reducible refine (spec_l40Rd_pick.calls k g s0_0 t192 2 t193 t194 w0 _ ?side1 ?side2 A15.out).mono ?_); (case side1 => repeat (first | (with_reducible first | exact HI0.out | apply IsS71.alloc | apply IsS71.drewN | apply IsS71.drew | apply IsS71.set_1 | refine IsS71.far ?_ NB0_184.out _ | refine IsS71.far ?_ NB0_190.out _) | exact HI0.out)); (case side2 => repeat (first | (with_reducible first | exact HB.out | apply Yf | apply Yg | apply Yh | refine Yi ?_ (IsS71.ge HI0.out) | refine Yi ?_ GE184.out | refine Yi ?_ GE190.out) | exact HB.out)); rintro e w18 ⟨rfl, hi, hb, hk⟩; refine ⟨_, rfl, ?_⟩; have n0_ := Yj (KeepBut.blk hk (g' := gb184) (o := .cells #[.int .i64 0, .slice none 0 0] 28 (0, 0)) (by (with_reducible repeat (first | refine Ya ?_ _ | refine Yb ?_ | refine Yc ?_ _)); exact BK184.out) NB184_0.out (by simp)); have n1_ := Yj (Kd.R_mono (Kd.R_keep (IsS71.apart (show IsS71 w0 _ g s0_0 t192 from by repeat (first | (with_reducible first | exact HI0.out | apply IsS71.alloc | apply IsS71.drewN | apply IsS71.drew | apply IsS71.set_1 | refine IsS71.far ?_ NB0_184.out _ | refine IsS71.far ?_ NB0_190.out _) | exact HI0.out)) (by (with_reducible repeat (first | apply Yl | apply Yk | apply Kd.R_drew)); exact HO188.out) (by decide)) hk (fun _ h => h.2)) (fun _ h => h.1)); have n2_ := Yj (KeepBut.blk hk (g' := gb190) (o := .cells #[.int .i64 t185, .slice Ao13 t186.length co13] 28 (0, 0)) (by (with_reducible repeat (first | refine Ya ?_ _ | refine Yb ?_ | refine Yc ?_ _)); exact BK190.out) NB190_0.out (by simp)); have n3_ := Yj (KeepBut.trans (by repeat (first | (with_reducible first | exact HK.out | apply KeepBut.set_ | apply keep_drewN | apply keep_drew | apply keep_alloc | refine keep_far ?_ GW184.out _ | refine keep_far ?_ GW190.out _) | exact HK.out)) hk (.inl rfl)); have n4_ := Yj (hb); have n5_ := Yj (hi); clear BK184; clear HO188; clear BK190; clear HK; clear HB; clear HI0; have BK184 := n0_; have HO188 := n1_; have BK190 := n2_; have HK := n3_; have HB := n4_; have HI0 := n5_; clear n0_ n1_ n2_ n3_ n4_ n5_; (try clear hb); (try clear hb2); (try clear hk); (try clear hi); have hnb19 := NB190_184.out; have hnc19 := NB184_190.out; have hnb20 := NB190_0.out; have hnc20 := NB0_190.out; have hcz21_0 : w18.cell? ⟨gb190, 0, none⟩ = some (.int .i64 t185) := (Yd BK190.out 0).trans rfl; have hcz21_1 : w18.cell? ⟨gb190, 1, none⟩ = some (.slice Ao13 t186.length co13) := (Yd BK190.out 1).trans rfl; have hfz21_0 := Ye BK190.out 0; have hfz21_1 := Ye BK190.out 1))
    go_meet
    case rel => exact ⟨_, (((t186.length : Int) == 0)), (t194), (by first | rfl | (simp; done) | (simp [*]; done)), H', ⟨by first | omega | exact Nat.le_refl _⟩, ⟨by (with_reducible repeat (first | apply Yl | apply Yk | apply Kd.R_drew)); exact HO188.out⟩, ⟨by (with_reducible repeat (first | refine Ya ?_ _ | refine Yb ?_ | refine Yc ?_ _)); exact BK184.out⟩, ⟨by (with_reducible repeat (first | refine Ya ?_ _ | refine Yb ?_ | refine Yc ?_ _)); exact BK190.out⟩, ⟨by repeat (first | (with_reducible first | exact HI0.out | apply IsS71.alloc | apply IsS71.drewN | apply IsS71.drew | apply IsS71.set_1 | refine IsS71.far ?_ NB0_184.out _ | refine IsS71.far ?_ NB0_190.out _) | exact HI0.out)⟩, ⟨by repeat (first | (with_reducible first | exact HK.out | apply KeepBut.set_ | apply keep_drewN | apply keep_drew | apply keep_alloc | refine keep_far ?_ GW184.out _ | refine keep_far ?_ GW190.out _) | exact HK.out)⟩, ⟨by repeat (first | (with_reducible first | exact HB.out | apply Yf | apply Yg | apply Yh | refine Yi ?_ (IsS71.ge HI0.out) | refine Yi ?_ GE184.out | refine Yi ?_ GE190.out) | exact HB.out)⟩⟩
  case rest =>
   clear HC6
   try clear c1
   try clear c2
   try clear p2
   try clear c3
   try clear c4
   try clear c5
   try clear c5b0
   try clear c5b1
   try clear c10
   try clear c11
   try clear c16
   try clear c16b0
   try clear c16b1
   try clear c19
   try clear c20
   try clear hcz12_0
   try clear hcz12_1
   try clear hcz21_0
   try clear hcz21_1
   try clear hfz12_0
   try clear hfz12_1
   try clear hfz21_0
   try clear hfz21_1
   obtain ⟨kq, x21_5, x1001_5, rfl, HA, HJ5, HO_191001, BK184, BK190, HI0, HK, HB⟩ := hcut
   cases kq with
   | zero => exact absurd HA.out (by simp [spec_l7Any.j0])
   | succ kj5 =>
    have H := HA.out
    clear HA
    simp only [spec_l7Any.j0] at H
    by_cases c22 : x21_5 = true
    ·subst c22
     have H1 : ((spec_l40Rd_num.f kj5 s0_0 x1001_5 (([(-1), 13] : List Int))).bind fun bt198 => (some (bt198.1, t186, bt198.2))) = some (r1, r2, r3) := by rw [if_pos rfl] at H; exact H
     clear H
     have H := H1
     clear H1
     obtain ⟨y195, hy195⟩ : ∃ y_ : List Int, y_ = (([(-1), 13] : List Int)) := ⟨_, rfl⟩
     replace H : ((spec_l40Rd_num.f kj5 s0_0 x1001_5 y195).bind fun bt198 => (some (bt198.1, t186, bt198.2))) = some (r1, r2, r3) := by first | (rw [hy195]; with_reducible exact H) | (have H2_ := (Option.bind_some _ _).symm.trans H; rw [hy195]; with_reducible exact H2_) | (have H2_ := (Option.bind_some _ _).symm.trans H; with_reducible exact H2_) | with_reducible exact H | (rw [hy195]; exact H) | exact H
     have Ny195 := Yj hy195
     clear hy195
     replace H := Option.bind_eq_some_iff.mp H
     obtain ⟨⟨t198, t199⟩, A230, H⟩ := H
     replace H : (some (t198, t186, t199)) = some (r1, r2, r3) := H
     have A23 := Yj A230
     clear A230
     simp only [Option.some.injEq, Prod.mk.injEq] at H
     obtain ⟨rfl, rfl, rfl⟩ := H
     go_wp2_with (first | ((with_reducible refine gate_dst (N := 23) rfl ?_); (try (refine gate_guard (by rfl) ?_; dsimp only)); refine Kd.R_lit (Kd.int .i64) _ 3 ?hg (N := 23) ?hd (xs := ([(-1), 13] : List Int)) (inner := [.int .i64 (-1), .int .i64 13]) (ok := fun _ => True) (okp := fun _ => True) ?hr ?hp (fun _ hk => hk) trivial (Below.refl _ _) (Nat.le_refl _) (by simp) ?_; (case hd => rfl); (case hg => rfl); (case hr => first | (go_simp; done) | (go_simp; rfl)); (case hp => exact (Reps.one (show Kd.M (Kd.int .i64) _ _ _ (-1) [.int .i64 (-1)] from rfl) (Reps.one (show Kd.M (Kd.int .i64) _ _ _ 13 [.int .i64 13] from rfl) (Reps.none _ _)))); intro v196 w24 ho25 hb hg_ hnew_; clear hg_ hnew_; (first | rw [← Ny195.out] at ho25 | (simp only [Int.reduceToNat] at ho25; rw [← Ny195.out] at ho25)); have n0_ := Yj (Kd.R_below (by (with_reducible repeat (first | apply Yl | apply Yk | apply Kd.R_drew)); exact HO_191001.out) hb); have n1_ := Yj (Kd.R_lower ho25 (keep_size (w := w) (g := g) (row := none) (by repeat (first | (with_reducible first | exact HK.out | apply KeepBut.set_ | apply keep_drewN | apply keep_drew | apply keep_alloc | refine keep_far ?_ GW184.out _ | refine keep_far ?_ GW190.out _) | exact HK.out)))); have n2_ := Yj (blk_below (g := gb184) (o := .cells #[.int .i64 0, .slice none 0 0] 28 (0, 0)) (by (with_reducible repeat (first | refine Ya ?_ _ | refine Yb ?_ | refine Yc ?_ _)); exact BK184.out) hb); have n3_ := Yj (blk_below (g := gb190) (o := .cells #[.int .i64 t185, .slice Ao13 t186.length co13] 28 (0, 0)) (by (with_reducible repeat (first | refine Ya ?_ _ | refine Yb ?_ | refine Yc ?_ _)); exact BK190.out) hb); have n4_ := Yj (IsS71.below (by repeat (first | (with_reducible first | exact HI0.out | apply IsS71.alloc | apply IsS71.drewN | apply IsS71.drew | apply IsS71.set_1 | refine IsS71.far ?_ NB0_184.out _ | refine IsS71.far ?_ NB0_190.out _) | exact HI0.out)) hb); have n5_ := Yj (KeepBut.trans (by repeat (first | (with_reducible first | exact HK.out | apply KeepBut.set_ | apply keep_drewN | apply keep_drew | apply keep_alloc | refine keep_far ?_ GW184.out _ | refine keep_far ?_ GW190.out _) | exact HK.out)) (KeepBut.of_below hb g none) (.inl rfl)); have n6_ := Yj (below_step (by repeat (first | (with_reducible first | exact HB.out | apply Yf | apply Yg | apply Yh | refine Yi ?_ (IsS71.ge HI0.out) | refine Yi ?_ GE184.out | refine Yi ?_ GE190.out) | exact HB.out)) hb); clear HO_191001; clear BK184; clear BK190; clear HI0; clear HK; clear HB; have HO_191001 := n0_; have HO197 := n1_; have BK184 := n2_; have BK190 := n3_; have HI0 := n4_; have HK := n5_; have HB := n6_; clear n0_ n1_ n2_ n3_ n4_ n5_ n6_; clear hb ho25; obtain ⟨Ao26, co26, eo26⟩ := Kd.R_slice HO197.out; subst eo26) | ((with_reducible refine gate_callee (f := 47) rfl ?_); refine goesL_ (some 24) rfl rfl Try.func47 (by kernel_rfl) rfl #[.pointer (some ⟨g, 0, none⟩), .slice Ao26 y195.length co26] rfl (by (try simp only [List.map_toArray, List.map_cons, List.map_nil]); first | done | rfl | (simp only [List.length_drop, List.length_take]; rfl)) ?_; (with_reducible refine (spec_l40Rd_num.calls kj5 g s0_0 x1001_5 _ _ y195 t198 t199 w0 _ ?side1 ?side2 ?side3 ?side4 ?side5 A23.out).mono ?_); (case side1 => repeat (first | (with_reducible first | exact HI0.out | apply IsS71.alloc | apply IsS71.drewN | apply IsS71.drew | apply IsS71.set_1 | refine IsS71.far ?_ NB0_184.out _ | refine IsS71.far ?_ NB0_190.out _) | exact HI0.out)); (case side2 => repeat (first | (with_reducible first | exact HB.out | apply Yf | apply Yg | apply Yh | refine Yi ?_ (IsS71.ge HI0.out) | refine Yi ?_ GE184.out | refine Yi ?_ GE190.out) | exact HB.out)); (case side3 => repeat (first | exact (Kd.R_reads' HO197.out).2.2 | (with_reducible refine Kd.C_alloc ?_ _) | (with_reducible refine Kd.C_drewN ?_ _) | (with_reducible refine Kd.C_drew ?_))); (case side4 => exact (Kd.R_reads' HO197.out).2.1); (case side5 => exact far_slice (IsS71.own_ne HI0.out HO197.out (by decide))); rintro e w27 ⟨rfl, hi, hb, hk⟩; refine ⟨_, rfl, ?_⟩; have n0_ := Yj (Kd.R_mono (Kd.R_keep (IsS71.apart (show IsS71 w0 _ g s0_0 x1001_5 from by repeat (first | (with_reducible first | exact HI0.out | apply IsS71.alloc | apply IsS71.drewN | apply IsS71.drew | apply IsS71.set_1 | refine IsS71.far ?_ NB0_184.out _ | refine IsS71.far ?_ NB0_190.out _) | exact HI0.out)) (by (with_reducible repeat (first | apply Yl | apply Yk | apply Kd.R_drew)); exact HO_191001.out) (by decide)) hk (fun _ h => h.2)) (fun _ h => h.1)); have n1_ := Yj (KeepBut.blk hk (g' := gb184) (o := .cells #[.int .i64 0, .slice none 0 0] 28 (0, 0)) (by (with_reducible repeat (first | refine Ya ?_ _ | refine Yb ?_ | refine Yc ?_ _)); exact BK184.out) NB184_0.out (by simp)); have n2_ := Yj (KeepBut.blk hk (g' := gb190) (o := .cells #[.int .i64 t185, .slice Ao13 t186.length co13] 28 (0, 0)) (by (with_reducible repeat (first | refine Ya ?_ _ | refine Yb ?_ | refine Yc ?_ _)); exact BK190.out) NB190_0.out (by simp)); have n3_ := Yj (Kd.R_mono (Kd.R_keep (IsS71.apart (show IsS71 w0 _ g s0_0 x1001_5 from by repeat (first | (with_reducible first | exact HI0.out | apply IsS71.alloc | apply IsS71.drewN | apply IsS71.drew | apply IsS71.set_1 | refine IsS71.far ?_ NB0_184.out _ | refine IsS71.far ?_ NB0_190.out _) | exact HI0.out)) (by (with_reducible repeat (first | apply Yl | apply Yk | apply Kd.R_drew)); exact HO197.out) (by decide)) hk (fun _ h => h.2)) (fun _ h => h.1)); have n4_ := Yj (KeepBut.trans (by repeat (first | (with_reducible first | exact HK.out | apply KeepBut.set_ | apply keep_drewN | apply keep_drew | apply keep_alloc | refine keep_far ?_ GW184.out _ | refine keep_far ?_ GW190.out _) | exact HK.out)) hk (.inl rfl)); have n5_ := Yj (hb); have n6_ := Yj (hi); clear HO_191001; clear BK184; clear BK190; clear HO197; clear HK; clear HB; clear HI0; have HO_191001 := n0_; have BK184 := n1_; have BK190 := n2_; have HO197 := n3_; have HK := n4_; have HB := n5_; have HI0 := n6_; clear n0_ n1_ n2_ n3_ n4_ n5_ n6_; (try clear hb); (try clear hb2); (try clear hk); (try clear hi); have hnb28 := NB190_184.out; have hnc28 := NB184_190.out; have hnb29 := NB190_0.out; have hnc29 := NB0_190.out; have hcz30_0 : w27.cell? ⟨gb190, 0, none⟩ = some (.int .i64 t185) := (Yd BK190.out 0).trans rfl; have hcz30_1 : w27.cell? ⟨gb190, 1, none⟩ = some (.slice Ao13 t186.length co13) := (Yd BK190.out 1).trans rfl; have hfz30_0 := Ye BK190.out 0; have hfz30_1 := Ye BK190.out 1; have hnb31 := NB184_0.out; have hnc31 := NB0_184.out; have hcz32_0 : w27.cell? ⟨gb184, 0, none⟩ = some (.int .i64 0) := (Yd BK184.out 0).trans rfl; have hcz32_1 : w27.cell? ⟨gb184, 1, none⟩ = some (.slice none 0 0) := (Yd BK184.out 1).trans rfl; have hfz32_0 := Ye BK184.out 0; have hfz32_1 := Ye BK184.out 1))
     refine bodyPost_ret (results_cell_row rfl _ _ gb184 28 #[.int .i64 t198, .slice Ao13 t186.length co13] (0, 0) _ rfl (by (with_reducible repeat (first | refine Ya ?_ _ | refine Yb ?_ | refine Yc ?_ _)); refine blk_put (cs := #[.int .i64 t198, .slice none 0 0]) ?_ 1 _ rfl; (with_reducible repeat (first | refine Ya ?_ _ | refine Yb ?_ | refine Yc ?_ _)); refine blk_put (cs := #[.int .i64 0, .slice none 0 0]) ?_ 0 _ rfl; (with_reducible repeat (first | refine Ya ?_ _ | refine Yb ?_ | refine Yc ?_ _)); refine blk_far ?_ NB184_190.out _; (with_reducible repeat (first | refine Ya ?_ _ | refine Yb ?_ | refine Yc ?_ _)); exact BK184.out) Try.underlying28 rfl (by kernel_rfl)) rfl ?_
     exact ⟨_, by first | rfl | (simp [errW_none, errW_some] <;> rfl) | (simp [*, errW_none, errW_some] <;> rfl), by (with_reducible repeat (first | apply Yl | apply Yk | apply Kd.R_drew)); exact Kd.R_mono (Kd.R_far (p := ⟨gb184, 1, none⟩) (Kd.R_far (p := ⟨gb184, 0, none⟩) (Kd.R_far (p := ⟨gb190, 0, none⟩) (Kd.R_types (Kd.R_types HO_191001.out BK190.out (by decide)) BK184.out (by decide)) (fun _ hk => hk.1.2) (.int .i64 t198)) (fun _ hk => hk.2) (.int .i64 t198)) (fun _ hk => hk.2) (.slice Ao13 t186.length co13)) (fun _ hk => trivial), by repeat (first | (with_reducible first | exact HI0.out | apply IsS71.alloc | apply IsS71.drewN | apply IsS71.drew | apply IsS71.set_1 | refine IsS71.far ?_ NB0_184.out _ | refine IsS71.far ?_ NB0_190.out _) | exact HI0.out), by repeat (first | (with_reducible first | exact HB.out | apply Yf | apply Yg | apply Yh | refine Yi ?_ (IsS71.ge HI0.out) | refine Yi ?_ GE184.out | refine Yi ?_ GE190.out) | exact HB.out), by repeat (first | (with_reducible first | exact HK.out | apply KeepBut.set_ | apply keep_drewN | apply keep_drew | apply keep_alloc | refine keep_far ?_ GW184.out _ | refine keep_far ?_ GW190.out _) | exact HK.out)⟩
    ·replace c22 := Bool.eq_false_iff.mpr c22
     subst c22
     have H1 : ((spec_l40Rd_pick.f kj5 s0_0 x1001_5 (t186.length : Int)).bind fun bt200 => ((spec_l40Rd_num.f kj5 s0_0 bt200.2 (([(-1), wrap64 (2 * (wrap64 ((wrap64 (1 + t185)) + bt200.1)))] : List Int))).bind fun bt205 => (if 0 ≤ bt200.1 then (if bt200.1 < (t186.length : Int) then (some (t185, (t186.set (bt200.1 : Int).toNat (⟨bt205.1, 0⟩ : S57)), bt205.2)) else (none)) else (none)))) = some (r1, r2, r3) := by rw [if_neg (show ¬ (false = true) by decide)] at H; exact H
     clear H
     have H := H1
     clear H1
     replace H := Option.bind_eq_some_iff.mp H
     obtain ⟨⟨t200, t201⟩, A330, H⟩ := H
     replace H : ((spec_l40Rd_num.f kj5 s0_0 t201 (([(-1), wrap64 (2 * (wrap64 ((wrap64 (1 + t185)) + t200)))] : List Int))).bind fun bt205 => (if 0 ≤ t200 then (if t200 < (t186.length : Int) then (some (t185, (t186.set (t200 : Int).toNat (⟨bt205.1, 0⟩ : S57)), bt205.2)) else (none)) else (none))) = some (r1, r2, r3) := H
     have A33 := Yj A330
     clear A330
     obtain ⟨y202, hy202⟩ : ∃ y_ : List Int, y_ = (([(-1), wrap64 (2 * (wrap64 ((wrap64 (1 + t185)) + t200)))] : List Int)) := ⟨_, rfl⟩
     replace H : ((spec_l40Rd_num.f kj5 s0_0 t201 y202).bind fun bt205 => (if 0 ≤ t200 then (if t200 < (t186.length : Int) then (some (t185, (t186.set (t200 : Int).toNat (⟨bt205.1, 0⟩ : S57)), bt205.2)) else (none)) else (none))) = some (r1, r2, r3) := by first | (rw [hy202]; with_reducible exact H) | (have H2_ := (Option.bind_some _ _).symm.trans H; rw [hy202]; with_reducible exact H2_) | (have H2_ := (Option.bind_some _ _).symm.trans H; with_reducible exact H2_) | with_reducible exact H | (rw [hy202]; exact H) | exact H
     have Ny202 := Yj hy202
     clear hy202
     replace H := Option.bind_eq_some_iff.mp H
     obtain ⟨⟨t205, t206⟩, A340, H⟩ := H
     replace H : (if 0 ≤ t200 then (if t200 < (t186.length : Int) then (some (t185, (t186.set (t200 : Int).toNat (⟨t205, 0⟩ : S57)), t206)) else (none)) else (none)) = some (r1, r2, r3) := H
     have A34 := Yj A340
     clear A340
     by_cases c35 : 0 ≤ t200
     ·rw [if_pos c35] at H
      have c35b0 : decide (0 ≤ t200) = true := decide_eq_true c35
      clear c35
      by_cases c36 : t200 < (t186.length : Int)
      ·rw [if_pos c36] at H
       have c36b0 : decide (t200 < (t186.length : Int)) = true := decide_eq_true c36
       clear c36
       obtain ⟨y207, hy207⟩ : ∃ y_ : List (S57), y_ = (t186.set (t200 : Int).toNat (⟨t205, 0⟩ : S57)) := ⟨_, rfl⟩
       replace H : (some (t185, y207, t206)) = some (r1, r2, r3) := by first | (rw [hy207]; with_reducible exact H) | (have H2_ := (Option.bind_some _ _).symm.trans H; rw [hy207]; with_reducible exact H2_) | (have H2_ := (Option.bind_some _ _).symm.trans H; with_reducible exact H2_) | with_reducible exact H | (rw [hy207]; exact H) | exact H
       have Ny207 := Yj hy207
       clear hy207
       simp only [Option.some.injEq, Prod.mk.injEq] at H
       obtain ⟨rfl, rfl, rfl⟩ := H
       have hnb38 := NB190_184.out
       have hnc38 := NB184_190.out
       have hnb39 := NB190_0.out
       have hnc39 := NB0_190.out
       have hcz40_0 : wc.cell? ⟨gb190, 0, none⟩ = some (.int .i64 t185) := (Yd BK190.out 0).trans rfl
       have hcz40_1 : wc.cell? ⟨gb190, 1, none⟩ = some (.slice Ao13 t186.length co13) := (Yd BK190.out 1).trans rfl
       have hfz40_0 := Ye BK190.out 0
       have hfz40_1 := Ye BK190.out 1
       try go_wp2_with (first | ((with_reducible refine gate_callee (f := 35) rfl ?_); refine goesL_ (some 30) rfl rfl Try.func35 (by kernel_rfl) rfl #[.pointer (some ⟨g, 0, none⟩), .int .i64 (t186.length : Int)] rfl (by (try simp only [List.map_toArray, List.map_cons, List.map_nil]); first | done | rfl | (simp only [List.length_drop, List.length_take]; rfl)) ?_; (with_reducible refine (spec_l40Rd_pick.calls kj5 g s0_0 x1001_5 (t186.length : Int) t200 t201 w0 _ ?side1 ?side2 A33.out).mono ?_); (case side1 => repeat (first | (with_reducible first | exact HI0.out | apply IsS71.alloc | apply IsS71.drewN | apply IsS71.drew | apply IsS71.set_1 | refine IsS71.far ?_ NB0_184.out _ | refine IsS71.far ?_ NB0_190.out _) | exact HI0.out)); (case side2 => repeat (first | (with_reducible first | exact HB.out | apply Yf | apply Yg | apply Yh | refine Yi ?_ (IsS71.ge HI0.out) | refine Yi ?_ GE184.out | refine Yi ?_ GE190.out) | exact HB.out)); rintro e w41 ⟨rfl, hi, hb, hk⟩; refine ⟨_, rfl, ?_⟩; have n0_ := Yj (Kd.R_mono (Kd.R_keep (IsS71.apart (show IsS71 w0 _ g s0_0 x1001_5 from by repeat (first | (with_reducible first | exact HI0.out | apply IsS71.alloc | apply IsS71.drewN | apply IsS71.drew | apply IsS71.set_1 | refine IsS71.far ?_ NB0_184.out _ | refine IsS71.far ?_ NB0_190.out _) | exact HI0.out)) (by (with_reducible repeat (first | apply Yl | apply Yk | apply Kd.R_drew)); exact HO_191001.out) (by decide)) hk (fun _ h => h.2)) (fun _ h => h.1)); have n1_ := Yj (KeepBut.blk hk (g' := gb184) (o := .cells #[.int .i64 0, .slice none 0 0] 28 (0, 0)) (by (with_reducible repeat (first | refine Ya ?_ _ | refine Yb ?_ | refine Yc ?_ _)); exact BK184.out) NB184_0.out (by simp)); have n2_ := Yj (KeepBut.blk hk (g' := gb190) (o := .cells #[.int .i64 t185, .slice Ao13 t186.length co13] 28 (0, 0)) (by (with_reducible repeat (first | refine Ya ?_ _ | refine Yb ?_ | refine Yc ?_ _)); exact BK190.out) NB190_0.out (by simp)); have n3_ := Yj (KeepBut.trans (by repeat (first | (with_reducible first | exact HK.out | apply KeepBut.set_ | apply keep_drewN | apply keep_drew | apply keep_alloc | refine keep_far ?_ GW184.out _ | refine keep_far ?_ GW190.out _) | exact HK.out)) hk (.inl rfl)); have n4_ := Yj (hb); have n5_ := Yj (hi); clear HO_191001; clear BK184; clear BK190; clear HK; clear HB; clear HI0; have HO_191001 := n0_; have BK184 := n1_; have BK190 := n2_; have HK := n3_; have HB := n4_; have HI0 := n5_; clear n0_ n1_ n2_ n3_ n4_ n5_; (try clear hb); (try clear hb2); (try clear hk); (try clear hi)))
       have n0_ := Yj (Kd.R_drew HO_191001.out)
       have n1_ := Yj (Yb BK184.out)
       have n2_ := Yj (Yb BK190.out)
       have n3_ := Yj (IsS71.drew HI0.out)
       have n4_ := Yj (keep_drew HK.out)
       have n5_ := Yj (Yh HB.out)
       clear HO_191001
       clear BK184
       clear BK190
       clear HI0
       clear HK
       clear HB
       have HO_191001 := n0_
       have BK184 := n1_
       have BK190 := n2_
       have HI0 := n3_
       have HK := n4_
       have HB := n5_
       clear n0_ n1_ n2_ n3_ n4_ n5_
       refine start_ (n := 15) (S := fun w' => w'.cell? ⟨gb190, 0, none⟩ = some (.int .i64 t185) ∧ w'.cell? ⟨gb190, 1, none⟩ = some (.slice Ao13 t186.length co13)) (ds := [14]) #[false, false, false, false, false, false, false, false, false, false, false, false, false, false, false] (by kernel_rfl) rfl rfl ⟨(Yd BK190.out 0).trans rfl, (Yd BK190.out 1).trans rfl⟩ (fun hHeld => ?_); refine with_tabW spec_l7Any.tab6 spec_l7Any.bits6 (fun HT_ HW_ => ?_)
       generalize w41.drew = w42 at HO_191001 BK184 BK190 HI0 HK HB hHeld ⊢
       refine pure_ (i := 0) (N := some 31) (v := ?_) (a' := ?_) #[true, false, false, false, false, false, false, false, false, false, false, false, false, false, false] rfl rfl (any_of HT_.out (by kernel_rfl)) (fun _ _ _ h => h) (Or.inl ⟨by rfl, ?_⟩) ?_ ?_
       rotate_left
       ·intro w'
        go_simp
        with_reducible rfl
       rotate_left
       ·simp only [Act.put, List.setIfInBounds_toArray, List.set_cons_zero, List.set_cons_succ, i64_w, i32_w]
        rfl
       refine pure_ (i := 2) (N := some 33) (v := ?_) (a' := ?_) #[true, false, true, false, false, false, false, false, false, false, false, false, false, false, false] rfl rfl (any_of HT_.out (by kernel_rfl)) (fun _ _ _ h => h) (Or.inl ⟨by rfl, ?_⟩) ?_ ?_
       rotate_left
       ·intro w'
        go_simp
        with_reducible rfl
       rotate_left
       ·simp only [Act.put, List.setIfInBounds_toArray, List.set_cons_zero, List.set_cons_succ, i64_w, i32_w]
        rfl
       refine pure_ (i := 3) (N := some 34) (v := ?_) (a' := ?_) #[true, false, true, true, false, false, false, false, false, false, false, false, false, false, false] rfl rfl (any_of HT_.out (by kernel_rfl)) (fun _ _ _ h => h) (Or.inl ⟨by rfl, ?_⟩) ?_ ?_
       rotate_left
       ·intro w'
        go_simp
        with_reducible rfl
       rotate_left
       ·simp only [Act.put, List.setIfInBounds_toArray, List.set_cons_zero, List.set_cons_succ, i64_w, i32_w]
        rfl
       refine pure_ (i := 4) (N := some 35) (v := ?_) (a' := ?_) #[true, false, true, true, true, false, false, false, false, false, false, false, false, false, false] rfl rfl (any_of HT_.out (by kernel_rfl)) (fun _ _ _ h => h) (Or.inl ⟨by rfl, ?_⟩) ?_ ?_
       rotate_left
       ·intro w'
        go_simp
        with_reducible rfl
       rotate_left
       ·simp only [Act.put, List.setIfInBounds_toArray, List.set_cons_zero, List.set_cons_succ, i64_w, i32_w]
        rfl
       refine pure_ (i := 7) (N := some 38) (v := ?_) (a' := ?_) #[true, false, true, true, true, false, false, true, false, false, false, false, false, false, false] rfl rfl (any_of HT_.out (by kernel_rfl)) (fun _ _ _ h => h) (Or.inl ⟨by rfl, ?_⟩) ?_ ?_
       rotate_left
       ·intro w'
        go_simp
        with_reducible rfl
       rotate_left
       ·simp only [Act.put, List.setIfInBounds_toArray, List.set_cons_zero, List.set_cons_succ, i64_w, i32_w]
        rfl
       refine take_ (i := 1) (N := some 32) (v := ?_) (a' := ?_) #[true, true, true, true, true, false, false, true, false, false, false, false, false, false, false] rfl rfl (take_ofW HT_.out HW_.out (by kernel_rfl)) (fun _ _ _ h => h) (Or.inl ⟨by rfl, ?_⟩) hHeld ?_ ?_
       rotate_left
       ·rintro w' ⟨s0, s1⟩
        go_simp
        with_reducible rfl
       rotate_left
       ·simp only [Act.put, List.setIfInBounds_toArray, List.set_cons_zero, List.set_cons_succ, i64_w, i32_w]
        rfl
       refine take_ (i := 5) (N := some 36) (v := ?_) (a' := ?_) #[true, true, true, true, true, true, false, true, false, false, false, false, false, false, false] rfl rfl (take_ofW HT_.out HW_.out (by kernel_rfl)) (fun _ _ _ h => h) (Or.inl ⟨by rfl, ?_⟩) hHeld ?_ ?_
       rotate_left
       ·rintro w' ⟨s0, s1⟩
        go_simp
        with_reducible rfl
       rotate_left
       ·simp only [Act.put, List.setIfInBounds_toArray, List.set_cons_zero, List.set_cons_succ, i64_w, i32_w]
        rfl
       refine pure_ (i := 6) (N := some 37) (v := ?_) (a' := ?_) #[true, true, true, true, true, true, true, true, false, false, false, false, false, false, false] rfl rfl (any_of HT_.out (by kernel_rfl)) (fun _ _ _ h => h) (Or.inl ⟨by rfl, ?_⟩) ?_ ?_
       rotate_left
       ·intro w'
        go_simp
        with_reducible rfl
       rotate_left
       ·simp only [Act.put, List.setIfInBounds_toArray, List.set_cons_zero, List.set_cons_succ, i64_w, i32_w]
        rfl
       refine pure_ (i := 8) (N := some 39) (v := ?_) (a' := ?_) #[true, true, true, true, true, true, true, true, true, false, false, false, false, false, false] rfl rfl (any_of HT_.out (by kernel_rfl)) (fun _ _ _ h => h) (Or.inl ⟨by rfl, ?_⟩) ?_ ?_
       rotate_left
       ·intro w'
        go_simp
        with_reducible rfl
       rotate_left
       ·simp only [Act.put, List.setIfInBounds_toArray, List.set_cons_zero, List.set_cons_succ, i64_w, i32_w]
        rfl
       refine pure_ (i := 9) (N := some 40) (v := ?_) (a' := ?_) #[true, true, true, true, true, true, true, true, true, true, false, false, false, false, false] rfl rfl (any_of HT_.out (by kernel_rfl)) (fun _ _ _ h => h) (Or.inl ⟨by rfl, ?_⟩) ?_ ?_
       rotate_left
       ·intro w'
        go_simp
        with_reducible rfl
       rotate_left
       ·simp only [Act.put, List.setIfInBounds_toArray, List.set_cons_zero, List.set_cons_succ, i64_w, i32_w]
        rfl
       refine one_ (i := 10) (N := some 41) #[true, true, true, true, true, true, true, true, true, true, true, false, false, false, false] rfl rfl (one_of HT_.out (by kernel_rfl)) (by decide) (fun K hK => ?_)
       refine Kd.R_lit_step (Kd.int .i64) _ 3 ?hg (N := 41) ?hd (xs := ([(-1), wrap64 (2 * (wrap64 ((wrap64 (1 + t185)) + t200)))] : List Int)) (inner := [.int .i64 (-1), .int .i64 (wrap64 (2 * (wrap64 ((wrap64 (1 + t185)) + t200))))]) (ok := fun _ => True) (okp := fun _ => True) ?hr ?hp (fun _ hk => hk) trivial (Below.refl _ _) (Nat.le_refl _) (by simp) ?_; (case hd => rfl); (case hg => rfl); (case hr => first | (go_simp; done) | (go_simp; rfl)); (case hp => exact (Reps.one (show Kd.M (Kd.int .i64) _ _ _ (-1) [.int .i64 (-1)] from rfl) (Reps.one (show Kd.M (Kd.int .i64) _ _ _ (wrap64 (2 * (wrap64 ((wrap64 (1 + t185)) + t200)))) [.int .i64 (wrap64 (2 * (wrap64 ((wrap64 (1 + t185)) + t200))))] from rfl) (Reps.none _ _))))
       intro v203 w43 ho44 hb hg_ hnew_
       clear hg_ hnew_
       (first | rw [← Ny202.out] at ho44 | (simp only [Int.reduceToNat] at ho44; rw [← Ny202.out] at ho44))
       have n0_ := Yj (Kd.R_below (by (with_reducible repeat (first | apply Yl | apply Yk | apply Kd.R_drew)); exact HO_191001.out) hb)
       have n1_ := Yj (Kd.R_lower ho44 (keep_size (w := w) (g := g) (row := none) (by repeat (first | (with_reducible first | exact HK.out | apply KeepBut.set_ | apply keep_drewN | apply keep_drew | apply keep_alloc | refine keep_far ?_ GW184.out _ | refine keep_far ?_ GW190.out _) | exact HK.out))))
       have n2_ := Yj (blk_below (g := gb184) (o := .cells #[.int .i64 0, .slice none 0 0] 28 (0, 0)) (by (with_reducible repeat (first | refine Ya ?_ _ | refine Yb ?_ | refine Yc ?_ _)); exact BK184.out) hb)
       have n3_ := Yj (blk_below (g := gb190) (o := .cells #[.int .i64 t185, .slice Ao13 t186.length co13] 28 (0, 0)) (by (with_reducible repeat (first | refine Ya ?_ _ | refine Yb ?_ | refine Yc ?_ _)); exact BK190.out) hb)
       have n4_ := Yj (IsS71.below (by repeat (first | (with_reducible first | exact HI0.out | apply IsS71.alloc | apply IsS71.drewN | apply IsS71.drew | apply IsS71.set_1 | refine IsS71.far ?_ NB0_184.out _ | refine IsS71.far ?_ NB0_190.out _) | exact HI0.out)) hb)
       have n5_ := Yj (KeepBut.trans (by repeat (first | (with_reducible first | exact HK.out | apply KeepBut.set_ | apply keep_drewN | apply keep_drew | apply keep_alloc | refine keep_far ?_ GW184.out _ | refine keep_far ?_ GW190.out _) | exact HK.out)) (KeepBut.of_below hb g none) (.inl rfl))
       have n6_ := Yj (below_step (by repeat (first | (with_reducible first | exact HB.out | apply Yf | apply Yg | apply Yh | refine Yi ?_ (IsS71.ge HI0.out) | refine Yi ?_ GE184.out | refine Yi ?_ GE190.out) | exact HB.out)) hb)
       clear HO_191001
       clear BK184
       clear BK190
       clear HI0
       clear HK
       clear HB
       have HO_191001 := n0_
       have HO204 := n1_
       have BK184 := n2_
       have BK190 := n3_
       have HI0 := n4_
       have HK := n5_
       have HB := n6_
       clear n0_ n1_ n2_ n3_ n4_ n5_ n6_
       clear hb ho44
       obtain ⟨Ao45, co45, eo45⟩ := Kd.R_slice HO204.out
       (first | subst eo45 | (injection eo45 with f1_ f2_ f3_; have f4_ := f1_.symm; have f5_ := f3_.symm; clear f1_ f2_ f3_; subst f4_; subst f5_))
       refine hK.out _ _ ⟨(Yd BK190.out 0).trans rfl, (Yd BK190.out 1).trans rfl⟩ (fun hHeld => ?_)
       clear hK K
       refine norm_ (a' := ?_) ?_ ?_
       rotate_left
       ·show Act.put _ (some 41) _ = _
        simp only [Act.put, List.setIfInBounds_toArray, List.set_cons_zero, List.set_cons_succ, i64_w, i32_w]
        rfl
       refine one_ (i := 11) (N := some 42) #[true, true, true, true, true, true, true, true, true, true, true, true, false, false, false] rfl rfl (one_of HT_.out (by kernel_rfl)) (by decide) (fun K hK => ?_)
       refine goes_ Try.func47 (by kernel_rfl) rfl #[.pointer (some ⟨g, 0, none⟩), .slice Ao45 y202.length co45] (by rfl) rfl rfl (by (try simp only [List.map_toArray, List.map_cons, List.map_nil]); first | done | rfl | (simp only [List.length_drop, List.length_take]; rfl)) ?_
       with_reducible refine (spec_l40Rd_num.calls kj5 g s0_0 t201 _ _ y202 t205 t206 w0 _ ?side1 ?side2 ?side3 ?side4 ?side5 A34.out).mono ?_
       (case side1 => repeat (first | (with_reducible first | exact HI0.out | apply IsS71.alloc | apply IsS71.drewN | apply IsS71.drew | apply IsS71.set_1 | refine IsS71.far ?_ NB0_184.out _ | refine IsS71.far ?_ NB0_190.out _) | exact HI0.out))
       (case side2 => repeat (first | (with_reducible first | exact HB.out | apply Yf | apply Yg | apply Yh | refine Yi ?_ (IsS71.ge HI0.out) | refine Yi ?_ GE184.out | refine Yi ?_ GE190.out) | exact HB.out))
       (case side3 => repeat (first | exact (Kd.R_reads' HO204.out).2.2 | (with_reducible refine Kd.C_alloc ?_ _) | (with_reducible refine Kd.C_drewN ?_ _) | (with_reducible refine Kd.C_drew ?_)))
       (case side4 => exact (Kd.R_reads' HO204.out).2.1)
       (case side5 => exact far_slice (IsS71.own_ne HI0.out HO204.out (by decide)))
       rintro e w46 ⟨rfl, hi, hb, hk⟩
       refine ⟨_, rfl, ?_⟩
       have n0_ := Yj (Kd.R_mono (Kd.R_keep (IsS71.apart (show IsS71 w0 _ g s0_0 t201 from by repeat (first | (with_reducible first | exact HI0.out | apply IsS71.alloc | apply IsS71.drewN | apply IsS71.drew | apply IsS71.set_1 | refine IsS71.far ?_ NB0_184.out _ | refine IsS71.far ?_ NB0_190.out _) | exact HI0.out)) (by (with_reducible repeat (first | apply Yl | apply Yk | apply Kd.R_drew)); exact HO_191001.out) (by decide)) hk (fun _ h => h.2)) (fun _ h => h.1))
       have n1_ := Yj (KeepBut.blk hk (g' := gb184) (o := .cells #[.int .i64 0, .slice none 0 0] 28 (0, 0)) (by (with_reducible repeat (first | refine Ya ?_ _ | refine Yb ?_ | refine Yc ?_ _)); exact BK184.out) NB184_0.out (by simp))
       have n2_ := Yj (KeepBut.blk hk (g' := gb190) (o := .cells #[.int .i64 t185, .slice Ao13 t186.length co13] 28 (0, 0)) (by (with_reducible repeat (first | refine Ya ?_ _ | refine Yb ?_ | refine Yc ?_ _)); exact BK190.out) NB190_0.out (by simp))
       have n3_ := Yj (Kd.R_mono (Kd.R_keep (IsS71.apart (show IsS71 w0 _ g s0_0 t201 from by repeat (first | (with_reducible first | exact HI0.out | apply IsS71.alloc | apply IsS71.drewN | apply IsS71.drew | apply IsS71.set_1 | refine IsS71.far ?_ NB0_184.out _ | refine IsS71.far ?_ NB0_190.out _) | exact HI0.out)) (by (with_reducible repeat (first | apply Yl | apply Yk | apply Kd.R_drew)); exact HO204.out) (by decide)) hk (fun _ h => h.2)) (fun _ h => h.1))
       have n4_ := Yj (KeepBut.trans (by repeat (first | (with_reducible first | exact HK.out | apply KeepBut.set_ | apply keep_drewN | apply keep_drew | apply keep_alloc | refine keep_far ?_ GW184.out _ | refine keep_far ?_ GW190.out _) | exact HK.out)) hk (.inl rfl))
       have n5_ := Yj (hb)
       have n6_ := Yj (hi)
       clear HO_191001
       clear BK184
       clear BK190
       clear HO204
       clear HK
       clear HB
       clear HI0
       have HO_191001 := n0_
       have BK184 := n1_
       have BK190 := n2_
       have HO204 := n3_
       have HK := n4_
       have HB := n5_
       have HI0 := n6_
       clear n0_ n1_ n2_ n3_ n4_ n5_ n6_
       (try clear hb)
       (try clear hb2)
       (try clear hk)
       (try clear hi)
       have p37 : 0 ≤ (t200 : Int) := of_decide_eq_true (by first | (with_reducible assumption) | assumption)
       have q37 : (t200 : Int) < ((t186.length : Int) : Int) := of_decide_eq_true (by first | (with_reducible assumption) | assumption)
       obtain ⟨go37, co37, eo37, gb37, gl37, cl37, HG37⟩ := Kd.R_form HO_191001.out (by omega)
       (first | cases eo37 | (injection eo37 with ea_ en_ ec_; (first | subst ea_ | (injection ea_ with ea_; subst ea_)); subst ec_; clear en_))
       have GB37 := Yj gb37
       have GG37 := Yj HG37
       clear gb37 gl37 HG37
       obtain ⟨ce37, hcl37, hM37, hcc37, hfr37⟩ := Kd.R_elem HO_191001.out z57 (t200 : Int) p37 q37
       obtain rfl := k57_openM hM37
       have hx37_0 : World.cell? _ ⟨go37, (t200 : Int).toNat * 2, none⟩ = some (.int .i64 ((rd_T57 t186 t200).f0)) := hcc37 0 _ rfl
       have hx37_1 : World.cell? _ ⟨go37, (t200 : Int).toNat * 2 + 1, none⟩ = some (.int .i64 ((rd_T57 t186 t200).f1)) := hcc37 1 _ rfl
       have hf37_0 : World.frozen? _ ⟨go37, (t200 : Int).toNat * 2, none⟩ = false := hfr37 0
       have hf37_1 : World.frozen? _ ⟨go37, (t200 : Int).toNat * 2 + 1, none⟩ = false := hfr37 1
       (try clear hcl37); (try clear hcc37); (try clear hfr37); (try clear hM37)
       replace p37 := eq_true p37
       replace q37 := eq_true q37
       have HN0_go37 := Yj (show g ≠ go37 from by have h_ := IsS71.own_ne HI0.out HO_191001.out (by decide); intro e_; exact h_ (by rw [e_]; rfl))
       obtain ⟨ce47, hcl47, hM47, hcc47, hfr47⟩ := Kd.R_elem HO_191001.out z57 (t200 : Int) (of_decide_eq_true (by first | (with_reducible assumption) | assumption)) (by have h_ : (t200 : Int) < ((t186.length : Int) : Int) := of_decide_eq_true (by first | (with_reducible assumption) | assumption); first | exact h_ | (have e_ := (Kd.R_reads' HO_191001.out).1; omega) | simpa using h_)
       obtain rfl := k57_openM hM47
       have HP47 := (Kd.R_seg HO_191001.out (t200 : Int) (of_decide_eq_true (by first | (with_reducible assumption) | assumption)) (by have h_ : (t200 : Int) < ((t186.length : Int) : Int) := of_decide_eq_true (by first | (with_reducible assumption) | assumption); first | exact h_ | (have e_ := (Kd.R_reads' HO_191001.out).1; omega) | simpa using h_) (seg := [.int .i64 t205, .int .i64 0]) (j := 0) hcl47 hcc47 (show 2 ≤ 2 from by decide) (x' := (⟨t205, 0⟩ : S57)) (k57_mkM _ _ _ (⟨t205, 0⟩ : S57) ) (fun _ hk => hk)).1
       rw [← Ny207.out] at HP47
       have HQ47 := Yj HP47
       (try clear hcl47); (try clear hcc47); (try clear hfr47); (try clear hM47); (try clear HP47)
       refine hK.out _ _ ⟨(Yd BK190.out 0).trans rfl, (Yd BK190.out 1).trans rfl⟩ (fun hHeld => ?_)
       clear hK K
       refine norm_ (a' := ?_) ?_ ?_
       rotate_left
       ·show Act.put _ (some 42) _ = _
        simp only [Act.put, List.setIfInBounds_toArray, List.set_cons_zero, List.set_cons_succ, i64_w, i32_w]
        rfl
       refine pure_ (i := 12) (N := some 43) (v := ?_) (a' := ?_) #[true, true, true, true, true, true, true, true, true, true, true, true, true, false, false] rfl rfl (any_of HT_.out (by kernel_rfl)) (fun _ _ _ h => h) (Or.inl ⟨by rfl, ?_⟩) ?_ ?_
       rotate_left
       ·intro w'
        go_simp
        with_reducible rfl
       rotate_left
       ·simp only [Act.put, List.setIfInBounds_toArray, List.set_cons_zero, List.set_cons_succ, i64_w, i32_w]
        rfl
       refine pure_ (i := 13) (N := some 44) (v := ?_) (a' := ?_) #[true, true, true, true, true, true, true, true, true, true, true, true, true, true, false] rfl rfl (any_of HT_.out (by kernel_rfl)) (fun _ _ _ h => h) (Or.inl ⟨by rfl, ?_⟩) ?_ ?_
       rotate_left
       ·intro w'
        go_simp
        with_reducible rfl
       rotate_left
       ·simp only [Act.put, List.setIfInBounds_toArray, List.set_cons_zero, List.set_cons_succ, i64_w, i32_w]
        rfl
       refine last_ (i := 14) (N := none) #[true, true, true, true, true, true, true, true, true, true, true, true, true, true, true] rfl rfl (one_of HT_.out (by kernel_rfl)) (by decide) (fun K hK => ?_)
       refine skip_ (w1 := ?_) (by rfl) rfl ?_ ?_
       rotate_left
       ·go_simp
        rfl
       refine hK.out _ _ ?_
       clear hK K
       refine done_ (done_of HT_.out (by kernel_rfl)) ?_
       have n0_ : Aside0 (Kd.R k57 57 ((w46.setCell ⟨go37, (t200 : Int).toNat * 2, none⟩ (.int .i64 t205)).setCell ⟨go37, (t200 : Int).toNat * 2 + 1, none⟩ (.int .i64 0)) w.heap.size (fun _ => True) (.slice (some ⟨go37, 0, none⟩) t186.length co13) y207) := ⟨by (with_reducible repeat (first | apply Yl | apply Yk | apply Kd.R_drew)); exact HQ47.out⟩
       have n1_ : Aside0 (Kd.R (Kd.int .i64) 3 ((w46.setCell ⟨go37, (t200 : Int).toNat * 2, none⟩ (.int .i64 t205)).setCell ⟨go37, (t200 : Int).toNat * 2 + 1, none⟩ (.int .i64 0)) w.heap.size (fun _ => True) (.slice Ao45 y202.length co45) y202) := ⟨by (with_reducible repeat (first | apply Yl | apply Yk | apply Kd.R_drew)); exact Kd.R_mono (Kd.R_far (p := ⟨go37, (t200 : Int).toNat * 2 + 1, none⟩) (Kd.R_far (p := ⟨go37, (t200 : Int).toNat * 2, none⟩) (Kd.R_types HO204.out GG37.out (by decide)) (fun _ hk => hk.2) (.int .i64 t205)) (fun _ hk => hk.2) (.int .i64 0)) (fun _ hk => trivial)⟩
       have n2_ : Aside0 (((w46.setCell ⟨go37, (t200 : Int).toNat * 2, none⟩ (.int .i64 t205)).setCell ⟨go37, (t200 : Int).toNat * 2 + 1, none⟩ (.int .i64 0)).heap[gb184]? = some (.cells #[.int .i64 0, .slice none 0 0] 28 (0, 0))) := ⟨by (with_reducible repeat (first | refine Ya ?_ _ | refine Yb ?_ | refine Yc ?_ _)); refine blk_far ?_ (by have h_ := Kd.R_ne HO_191001.out BK184.out (by decide); intro e_; exact h_ (by rw [e_]; rfl)) _; (with_reducible repeat (first | refine Ya ?_ _ | refine Yb ?_ | refine Yc ?_ _)); refine blk_far ?_ (by have h_ := Kd.R_ne HO_191001.out BK184.out (by decide); intro e_; exact h_ (by rw [e_]; rfl)) _; (with_reducible repeat (first | refine Ya ?_ _ | refine Yb ?_ | refine Yc ?_ _)); exact BK184.out⟩
       have n3_ : Aside0 (((w46.setCell ⟨go37, (t200 : Int).toNat * 2, none⟩ (.int .i64 t205)).setCell ⟨go37, (t200 : Int).toNat * 2 + 1, none⟩ (.int .i64 0)).heap[gb190]? = some (.cells #[.int .i64 t185, .slice (some ⟨go37, 0, none⟩) t186.length co13] 28 (0, 0))) := ⟨by (with_reducible repeat (first | refine Ya ?_ _ | refine Yb ?_ | refine Yc ?_ _)); refine blk_far ?_ (by have h_ := Kd.R_ne HO_191001.out BK190.out (by decide); intro e_; exact h_ (by rw [e_]; rfl)) _; (with_reducible repeat (first | refine Ya ?_ _ | refine Yb ?_ | refine Yc ?_ _)); refine blk_far ?_ (by have h_ := Kd.R_ne HO_191001.out BK190.out (by decide); intro e_; exact h_ (by rw [e_]; rfl)) _; (with_reducible repeat (first | refine Ya ?_ _ | refine Yb ?_ | refine Yc ?_ _)); exact BK190.out⟩
       have n4_ : Aside0 (IsS71 w0 ((w46.setCell ⟨go37, (t200 : Int).toNat * 2, none⟩ (.int .i64 t205)).setCell ⟨go37, (t200 : Int).toNat * 2 + 1, none⟩ (.int .i64 0)) g s0_0 t206) := ⟨by repeat (first | (with_reducible first | exact HI0.out | apply IsS71.alloc | apply IsS71.drewN | apply IsS71.drew | apply IsS71.set_1 | refine IsS71.far ?_ HN0_go37.out _ | refine IsS71.far ?_ HN0_go37.out _ | refine IsS71.far ?_ NB0_184.out _ | refine IsS71.far ?_ NB0_190.out _) | exact HI0.out)⟩
       have n5_ : Aside0 (KeepBut w ((w46.setCell ⟨go37, (t200 : Int).toNat * 2, none⟩ (.int .i64 t205)).setCell ⟨go37, (t200 : Int).toNat * 2 + 1, none⟩ (.int .i64 0)) g none) := ⟨by repeat (first | (with_reducible first | exact HK.out | apply KeepBut.set_ | apply keep_drewN | apply keep_drew | apply keep_alloc | refine keep_far ?_ GB37.out _ | refine keep_far ?_ GB37.out _ | refine keep_far ?_ GW184.out _ | refine keep_far ?_ GW190.out _) | exact HK.out)⟩
       have n6_ : Aside0 (Below w0.heap.size w0 ((w46.setCell ⟨go37, (t200 : Int).toNat * 2, none⟩ (.int .i64 t205)).setCell ⟨go37, (t200 : Int).toNat * 2 + 1, none⟩ (.int .i64 0))) := ⟨by repeat (first | (with_reducible first | exact HB.out | apply Yf | apply Yg | apply Yh | refine Yi ?_ (Nat.le_trans HL.out GB37.out) | refine Yi ?_ (Nat.le_trans HL.out GB37.out) | refine Yi ?_ (IsS71.ge HI0.out) | refine Yi ?_ GE184.out | refine Yi ?_ GE190.out) | exact HB.out)⟩
       (try clear HO_191001)
       (try clear HO204)
       (try clear BK184)
       (try clear BK190)
       (try clear HI0)
       (try clear HK)
       (try clear HB)
       generalize ((w46.setCell ⟨go37, (t200 : Int).toNat * 2, none⟩ (.int .i64 t205)).setCell ⟨go37, (t200 : Int).toNat * 2 + 1, none⟩ (.int .i64 0)) = w48 at n0_ n1_ n2_ n3_ n4_ n5_ n6_ ⊢
       have HO_191001 := n0_
       have HO204 := n1_
       have BK184 := n2_
       have BK190 := n3_
       have HI0 := n4_
       have HK := n5_
       have HB := n6_
       clear n0_ n1_ n2_ n3_ n4_ n5_ n6_
       have hcz49_0 : w48.cell? ⟨gb190, 0, none⟩ = some (.int .i64 t185) := (Yd BK190.out 0).trans rfl
       have hcz49_1 : w48.cell? ⟨gb190, 1, none⟩ = some (.slice (some ⟨go37, 0, none⟩) t186.length co13) := (Yd BK190.out 1).trans rfl
       have hfz49_0 := Ye BK190.out 0
       have hfz49_1 := Ye BK190.out 1
       have hnb50 := NB184_0.out
       have hnc50 := NB0_184.out
       have hcz51_0 : w48.cell? ⟨gb184, 0, none⟩ = some (.int .i64 0) := (Yd BK184.out 0).trans rfl
       have hcz51_1 : w48.cell? ⟨gb184, 1, none⟩ = some (.slice none 0 0) := (Yd BK184.out 1).trans rfl
       have hfz51_0 := Ye BK184.out 0
       have hfz51_1 := Ye BK184.out 1
       try go_wp2
       refine bodyPost_ret (results_cell_row rfl _ _ gb184 28 #[.int .i64 t185, .slice (some ⟨go37, 0, none⟩) t186.length co13] (0, 0) _ rfl (by (with_reducible repeat (first | refine Ya ?_ _ | refine Yb ?_ | refine Yc ?_ _)); refine blk_put (cs := #[.int .i64 t185, .slice none 0 0]) ?_ 1 _ rfl; (with_reducible repeat (first | refine Ya ?_ _ | refine Yb ?_ | refine Yc ?_ _)); refine blk_put (cs := #[.int .i64 0, .slice none 0 0]) ?_ 0 _ rfl; (with_reducible repeat (first | refine Ya ?_ _ | refine Yb ?_ | refine Yc ?_ _)); exact BK184.out) Try.underlying28 rfl (by kernel_rfl)) rfl ?_
       exact ⟨_, by first | rfl | (simp [errW_none, errW_some] <;> rfl) | (simp [*, errW_none, errW_some] <;> rfl), by (with_reducible repeat (first | apply Yl | apply Yk | apply Kd.R_drew)); exact Kd.R_mono (Kd.R_far (p := ⟨gb184, 1, none⟩) (Kd.R_far (p := ⟨gb184, 0, none⟩) (Kd.R_types HO_191001.out BK184.out (by decide)) (fun _ hk => hk.2) (.int .i64 t185)) (fun _ hk => hk.2) (.slice (some ⟨go37, 0, none⟩) t186.length co13)) (fun _ hk => trivial), by repeat (first | (with_reducible first | exact HI0.out | apply IsS71.alloc | apply IsS71.drewN | apply IsS71.drew | apply IsS71.set_1 | refine IsS71.far ?_ NB0_184.out _ | refine IsS71.far ?_ NB0_190.out _) | exact HI0.out), by repeat (first | (with_reducible first | exact HB.out | apply Yf | apply Yg | apply Yh | refine Yi ?_ (IsS71.ge HI0.out) | refine Yi ?_ GE184.out | refine Yi ?_ GE190.out) | exact HB.out), by repeat (first | (with_reducible first | exact HK.out | apply KeepBut.set_ | apply keep_drewN | apply keep_drew | apply keep_alloc | refine keep_far ?_ GW184.out _ | refine keep_far ?_ GW190.out _) | exact HK.out)⟩
      ·rw [if_neg c36] at H
       exact absurd H (by simp)
     ·rw [if_neg c35] at H
      exact absurd H (by simp)
 ·rw [if_neg c5] at H
  have c5b0 : (t191 == 0) = false := beq_eq_false_iff_ne.mpr c5
  have c5b1 : (t191 != 0) = true := bne_iff_ne.mpr c5
  simp only [Option.some.injEq, Prod.mk.injEq] at H
  obtain ⟨rfl, rfl, rfl⟩ := H
  go_enter Try.func34, Try.ntmps34
  go_wp2_with (first | ((with_reducible refine gate_dst (N := 4) rfl ?_); (try (refine gate_guard (by rfl) ?_; dsimp only)); refine box_event ?hg (N := 4) ?hd (cs := #[.int .i64 0, .slice none 0 0]) (t := 28) ?hr ?_; (case hd => rfl); (case hg => rfl); (case hr => first | (go_simp; done) | (go_simp; rfl)); intro gb184 hg w52 hbox hb; have n0_ := Yj (IsS71.below (by repeat (first | (with_reducible first | exact HI0.out | apply IsS71.alloc | apply IsS71.drewN | apply IsS71.drew | apply IsS71.set_1) | exact HI0.out)) hb); have n1_ := Yj (KeepBut.trans (by repeat (first | (with_reducible first | exact HK.out | apply KeepBut.set_ | apply keep_drewN | apply keep_drew | apply keep_alloc) | exact HK.out)) (KeepBut.of_below hb g none) (.inl rfl)); have n2_ := Yj (below_step (by repeat (first | (with_reducible first | exact HB.out | apply Yf | apply Yg | apply Yh | refine Yi ?_ (IsS71.ge HI0.out)) | exact HB.out)) hb); have n3_ := Yj (hbox); have n4_ := Yj ((by rw [hg]; exact (keep_size (w := w) (g := g) (row := none) (by repeat (first | (with_reducible first | exact HK.out | apply KeepBut.set_ | apply keep_drewN | apply keep_drew | apply keep_alloc) | exact HK.out))) : w.heap.size ≤ gb184)); have n5_ := Yj ((Nat.le_trans HW0.out (by rw [hg]; exact (keep_size (w := w) (g := g) (row := none) (by repeat (first | (with_reducible first | exact HK.out | apply KeepBut.set_ | apply keep_drewN | apply keep_drew | apply keep_alloc) | exact HK.out))) : w.heap.size ≤ gb184) : w0.heap.size ≤ gb184)); have n6_ := Yj ((by rw [hg]; exact Nat.ne_of_lt (IsS71.lt (show IsS71 w0 _ g s0_0 s0_1 from by repeat (first | (with_reducible first | exact HI0.out | apply IsS71.alloc | apply IsS71.drewN | apply IsS71.drew | apply IsS71.set_1) | exact HI0.out))) : g ≠ gb184)); have n7_ := Yj ((by rw [hg]; exact Nat.ne_of_gt (IsS71.lt (show IsS71 w0 _ g s0_0 s0_1 from by repeat (first | (with_reducible first | exact HI0.out | apply IsS71.alloc | apply IsS71.drewN | apply IsS71.drew | apply IsS71.set_1) | exact HI0.out))) : gb184 ≠ g)); clear HI0; clear HK; clear HB; have HI0 := n0_; have HK := n1_; have HB := n2_; have BK184 := n3_; have GW184 := n4_; have GE184 := n5_; have NB0_184 := n6_; have NB184_0 := n7_; clear n0_ n1_ n2_ n3_ n4_ n5_ n6_ n7_; clear hb hbox hg) | ((with_reducible refine gate_callee (f := 46) rfl ?_); refine goesL_ (some 9) rfl rfl Try.func46 (by kernel_rfl) rfl #[.pointer (some ⟨g, 0, none⟩), .int .i64 a1] rfl (by (try simp only [List.map_toArray, List.map_cons, List.map_nil]); first | done | rfl | (simp only [List.length_drop, List.length_take]; rfl)) ?_; (with_reducible refine (spec_l7Draw.calls k g s0_0 s0_1 a1 t185 t186 t189 w0 _ ?side1 ?side2 A3.out).mono ?_); (case side1 => repeat (first | (with_reducible first | exact HI0.out | apply IsS71.alloc | apply IsS71.drewN | apply IsS71.drew | apply IsS71.set_1 | refine IsS71.far ?_ NB0_184.out _) | exact HI0.out)); (case side2 => repeat (first | (with_reducible first | exact HB.out | apply Yf | apply Yg | apply Yh | refine Yi ?_ (IsS71.ge HI0.out) | refine Yi ?_ GE184.out) | exact HB.out)); rintro e w53 ⟨v187, rfl, ho0, hi, hb, hk⟩; refine ⟨_, rfl, ?_⟩; have n0_ := Yj (KeepBut.blk hk (g' := gb184) (o := .cells #[.int .i64 0, .slice none 0 0] 28 (0, 0)) (by (with_reducible repeat (first | refine Ya ?_ _ | refine Yb ?_ | refine Yc ?_ _)); exact BK184.out) NB184_0.out (by simp)); have n1_ := Yj (Kd.R_lower ho0 (keep_size (w := w) (g := g) (row := none) (by repeat (first | (with_reducible first | exact HK.out | apply KeepBut.set_ | apply keep_drewN | apply keep_drew | apply keep_alloc | refine keep_far ?_ GW184.out _) | exact HK.out)))); have n2_ := Yj (KeepBut.trans (by repeat (first | (with_reducible first | exact HK.out | apply KeepBut.set_ | apply keep_drewN | apply keep_drew | apply keep_alloc | refine keep_far ?_ GW184.out _) | exact HK.out)) hk (.inl rfl)); have n3_ := Yj (hb); have n4_ := Yj (hi); clear BK184; clear HK; clear HB; clear HI0; have BK184 := n0_; have HO188 := n1_; have HK := n2_; have HB := n3_; have HI0 := n4_; clear n0_ n1_ n2_ n3_ n4_; (try clear hb); (try clear hb2); (try clear hk); (try clear hi); (try clear ho0)) | ((with_reducible refine gate_dst (N := 5) rfl ?_); (try (refine gate_guard (by rfl) ?_; dsimp only)); refine box_event ?hg (N := 5) ?hd (cs := #[.int .i64 0, .slice none 0 0]) (t := 28) ?hr ?_; (case hd => rfl); (case hg => rfl); (case hr => first | (go_simp; done) | (go_simp; rfl)); intro gb190 hg w54 hbox hb; have n0_ := Yj (Kd.R_below (by (with_reducible repeat (first | apply Yl | apply Yk | apply Kd.R_drew)); exact HO188.out) hb); have n1_ := Yj (IsS71.below (by repeat (first | (with_reducible first | exact HI0.out | apply IsS71.alloc | apply IsS71.drewN | apply IsS71.drew | apply IsS71.set_1 | refine IsS71.far ?_ NB0_184.out _) | exact HI0.out)) hb); have n2_ := Yj (blk_below (g := gb184) (o := .cells #[.int .i64 0, .slice none 0 0] 28 (0, 0)) (by (with_reducible repeat (first | refine Ya ?_ _ | refine Yb ?_ | refine Yc ?_ _)); exact BK184.out) hb); have n3_ := Yj (KeepBut.trans (by repeat (first | (with_reducible first | exact HK.out | apply KeepBut.set_ | apply keep_drewN | apply keep_drew | apply keep_alloc | refine keep_far ?_ GW184.out _) | exact HK.out)) (KeepBut.of_below hb g none) (.inl rfl)); have n4_ := Yj (below_step (by repeat (first | (with_reducible first | exact HB.out | apply Yf | apply Yg | apply Yh | refine Yi ?_ (IsS71.ge HI0.out) | refine Yi ?_ GE184.out) | exact HB.out)) hb); have n5_ := Yj (hbox); have n6_ := Yj ((by rw [hg]; exact (keep_size (w := w) (g := g) (row := none) (by repeat (first | (with_reducible first | exact HK.out | apply KeepBut.set_ | apply keep_drewN | apply keep_drew | apply keep_alloc | refine keep_far ?_ GW184.out _) | exact HK.out))) : w.heap.size ≤ gb190)); have n7_ := Yj ((Nat.le_trans HW0.out (by rw [hg]; exact (keep_size (w := w) (g := g) (row := none) (by repeat (first | (with_reducible first | exact HK.out | apply KeepBut.set_ | apply keep_drewN | apply keep_drew | apply keep_alloc | refine keep_far ?_ GW184.out _) | exact HK.out))) : w.heap.size ≤ gb190) : w0.heap.size ≤ gb190)); have n8_ := Yj ((by rw [hg]; exact Nat.ne_of_lt (blk_lt (g := gb184) (o := .cells #[.int .i64 0, .slice none 0 0] 28 (0, 0)) (by (with_reducible repeat (first | refine Ya ?_ _ | refine Yb ?_ | refine Yc ?_ _)); exact BK184.out)) : gb184 ≠ gb190)); have n9_ := Yj ((by rw [hg]; exact Nat.ne_of_gt (blk_lt (g := gb184) (o := .cells #[.int .i64 0, .slice none 0 0] 28 (0, 0)) (by (with_reducible repeat (first | refine Ya ?_ _ | refine Yb ?_ | refine Yc ?_ _)); exact BK184.out)) : gb190 ≠ gb184)); have n10_ := Yj ((by rw [hg]; exact Nat.ne_of_lt (IsS71.lt (show IsS71 w0 _ g s0_0 t189 from by repeat (first | (with_reducible first | exact HI0.out | apply IsS71.alloc | apply IsS71.drewN | apply IsS71.drew | apply IsS71.set_1 | refine IsS71.far ?_ NB0_184.out _) | exact HI0.out))) : g ≠ gb190)); have n11_ := Yj ((by rw [hg]; exact Nat.ne_of_gt (IsS71.lt (show IsS71 w0 _ g s0_0 t189 from by repeat (first | (with_reducible first | exact HI0.out | apply IsS71.alloc | apply IsS71.drewN | apply IsS71.drew | apply IsS71.set_1 | refine IsS71.far ?_ NB0_184.out _) | exact HI0.out))) : gb190 ≠ g)); clear HO188; clear HI0; clear BK184; clear HK; clear HB; have HO188 := n0_; have HI0 := n1_; have BK184 := n2_; have HK := n3_; have HB := n4_; have BK190 := n5_; have GW190 := n6_; have GE190 := n7_; have NB184_190 := n8_; have NB190_184 := n9_; have NB0_190 := n10_; have NB190_0 := n11_; clear n0_ n1_ n2_ n3_ n4_ n5_ n6_ n7_ n8_ n9_ n10_ n11_; clear hb hbox hg; have hnb55 := NB190_184.out; have hnc55 := NB184_190.out; have hnb56 := NB190_0.out; have hnc56 := NB0_190.out; have hcz57_0 : w54.cell? ⟨gb190, 0, none⟩ = some (.int .i64 0) := (Yd BK190.out 0).trans rfl; have hcz57_1 : w54.cell? ⟨gb190, 1, none⟩ = some (.slice none 0 0) := (Yd BK190.out 1).trans rfl; have hfz57_0 := Ye BK190.out 0; have hfz57_1 := Ye BK190.out 1; obtain ⟨Ao58, co58, eo58⟩ := Kd.R_slice HO188.out; subst eo58) | ((with_reducible refine gate_callee (f := 35) rfl ?_); refine goesL_ (some 11) rfl rfl Try.func35 (by kernel_rfl) rfl #[.pointer (some ⟨g, 0, none⟩), .int .i64 14] rfl (by (try simp only [List.map_toArray, List.map_cons, List.map_nil]); first | done | rfl | (simp only [List.length_drop, List.length_take]; rfl)) ?_; (with_reducible refine (spec_l40Rd_pick.calls k g s0_0 t189 14 t191 t192 w0 _ ?side1 ?side2 A4.out).mono ?_); (case side1 => repeat (first | (with_reducible first | exact HI0.out | apply IsS71.alloc | apply IsS71.drewN | apply IsS71.drew | apply IsS71.set_1 | refine IsS71.far ?_ NB0_184.out _ | refine IsS71.far ?_ NB0_190.out _) | exact HI0.out)); (case side2 => repeat (first | (with_reducible first | exact HB.out | apply Yf | apply Yg | apply Yh | refine Yi ?_ (IsS71.ge HI0.out) | refine Yi ?_ GE184.out | refine Yi ?_ GE190.out) | exact HB.out)); rintro e w59 ⟨rfl, hi, hb, hk⟩; refine ⟨_, rfl, ?_⟩; have n0_ := Yj (KeepBut.blk hk (g' := gb184) (o := .cells #[.int .i64 0, .slice none 0 0] 28 (0, 0)) (by (with_reducible repeat (first | refine Ya ?_ _ | refine Yb ?_ | refine Yc ?_ _)); refine blk_far ?_ NB184_190.out _; (with_reducible repeat (first | refine Ya ?_ _ | refine Yb ?_ | refine Yc ?_ _)); refine blk_far ?_ NB184_190.out _; (with_reducible repeat (first | refine Ya ?_ _ | refine Yb ?_ | refine Yc ?_ _)); exact BK184.out) NB184_0.out (by simp)); have n1_ := Yj (Kd.R_mono (Kd.R_keep (IsS71.apart (show IsS71 w0 _ g s0_0 t189 from by repeat (first | (with_reducible first | exact HI0.out | apply IsS71.alloc | apply IsS71.drewN | apply IsS71.drew | apply IsS71.set_1 | refine IsS71.far ?_ NB0_184.out _ | refine IsS71.far ?_ NB0_190.out _) | exact HI0.out)) (by (with_reducible repeat (first | apply Yl | apply Yk | apply Kd.R_drew)); exact (Kd.R_mono (Kd.R_far (p := ⟨gb190, 1, none⟩) (Kd.R_far (p := ⟨gb190, 0, none⟩) (Kd.R_types HO188.out BK190.out (by decide)) (fun _ hk => hk.2) (.int .i64 t185)) (fun _ hk => hk.2) (.slice Ao58 t186.length co58)) (fun _ h_ => h_.1))) (by decide)) hk (fun _ h => h.2)) (fun _ h => h.1)); have n2_ := Yj (KeepBut.blk hk (g' := gb190) (o := .cells #[.int .i64 t185, .slice Ao58 t186.length co58] 28 (0, 0)) (by (with_reducible repeat (first | refine Ya ?_ _ | refine Yb ?_ | refine Yc ?_ _)); refine blk_put (cs := #[.int .i64 t185, .slice none 0 0]) ?_ 1 _ rfl; (with_reducible repeat (first | refine Ya ?_ _ | refine Yb ?_ | refine Yc ?_ _)); refine blk_put (cs := #[.int .i64 0, .slice none 0 0]) ?_ 0 _ rfl; (with_reducible repeat (first | refine Ya ?_ _ | refine Yb ?_ | refine Yc ?_ _)); exact BK190.out) NB190_0.out (by simp)); have n3_ := Yj (KeepBut.trans (by repeat (first | (with_reducible first | exact HK.out | apply KeepBut.set_ | apply keep_drewN | apply keep_drew | apply keep_alloc | refine keep_far ?_ GW184.out _ | refine keep_far ?_ GW190.out _) | exact HK.out)) hk (.inl rfl)); have n4_ := Yj (hb); have n5_ := Yj (hi); clear BK184; clear HO188; clear BK190; clear HK; clear HB; clear HI0; have BK184 := n0_; have HO188 := n1_; have BK190 := n2_; have HK := n3_; have HB := n4_; have HI0 := n5_; clear n0_ n1_ n2_ n3_ n4_ n5_; (try clear hb); (try clear hb2); (try clear hk); (try clear hi); have hcz60_0 : w59.cell? ⟨gb190, 0, none⟩ = some (.int .i64 t185) := (Yd BK190.out 0).trans rfl; have hcz60_1 : w59.cell? ⟨gb190, 1, none⟩ = some (.slice Ao58 t186.length co58) := (Yd BK190.out 1).trans rfl; have hfz60_0 := Ye BK190.out 0; have hfz60_1 := Ye BK190.out 1; have hnb61 := NB184_0.out; have hnc61 := NB0_184.out; have hcz62_0 : w59.cell? ⟨gb184, 0, none⟩ = some (.int .i64 0) := (Yd BK184.out 0).trans rfl; have hcz62_1 : w59.cell? ⟨gb184, 1, none⟩ = some (.slice none 0 0) := (Yd BK184.out 1).trans rfl; have hfz62_0 := Ye BK184.out 0; have hfz62_1 := Ye BK184.out 1))
  refine bodyPost_ret (results_cell_row rfl _ _ gb184 28 #[.int .i64 t185, .slice Ao58 t186.length co58] (0, 0) _ rfl (by (with_reducible repeat (first | refine Ya ?_ _ | refine Yb ?_ | refine Yc ?_ _)); refine blk_put (cs := #[.int .i64 t185, .slice none 0 0]) ?_ 1 _ rfl; (with_reducible repeat (first | refine Ya ?_ _ | refine Yb ?_ | refine Yc ?_ _)); refine blk_put (cs := #[.int .i64 0, .slice none 0 0]) ?_ 0 _ rfl; (with_reducible repeat (first | refine Ya ?_ _ | refine Yb ?_ | refine Yc ?_ _)); exact BK184.out) Try.underlying28 rfl (by kernel_rfl)) rfl ?_
  exact ⟨_, by first | rfl | (simp [errW_none, errW_some] <;> rfl) | (simp [*, errW_none, errW_some] <;> rfl), by (with_reducible repeat (first | apply Yl | apply Yk | apply Kd.R_drew)); exact Kd.R_mono (Kd.R_far (p := ⟨gb184, 1, none⟩) (Kd.R_far (p := ⟨gb184, 0, none⟩) (Kd.R_types HO188.out BK184.out (by decide)) (fun _ hk => hk.2) (.int .i64 t185)) (fun _ hk => hk.2) (.slice Ao58 t186.length co58)) (fun _ hk => trivial), by repeat (first | (with_reducible first | exact HI0.out | apply IsS71.alloc | apply IsS71.drewN | apply IsS71.drew | apply IsS71.set_1 | refine IsS71.far ?_ NB0_184.out _ | refine IsS71.far ?_ NB0_190.out _) | exact HI0.out), by repeat (first | (with_reducible first | exact HB.out | apply Yf | apply Yg | apply Yh | refine Yi ?_ (IsS71.ge HI0.out) | refine Yi ?_ GE184.out | refine Yi ?_ GE190.out) | exact HB.out), by repeat (first | (with_reducible first | exact HK.out | apply KeepBut.set_ | apply keep_drewN | apply keep_drew | apply keep_alloc | refine keep_far ?_ GW184.out _ | refine keep_far ?_ GW190.out _) | exact HK.out)⟩

/-! ### spec_l7Some: function 36 -/
def spec_l7Some.f (k : Nat) (s0_0 : List Int) (s0_1 : Int) (a1_0 : Int) (l1_1 : List (S57)) : Option (Int × Int) := (spec_l7Nodes.f a1_0 l1_1).bind fun t209 => ((spec_l40Rd_pick.f k s0_0 s0_1 15).bind fun bt210 => (if bt210.1 = 0 then ((spec_l40Rd_num.f k s0_0 bt210.2 (([wrap64 (2 * t209), (-1)] : List Int))).bind fun bt215 => (some (bt215.1, bt215.2))) else ((spec_l40Rd_pick.f k s0_0 bt210.2 2).bind fun bt217 => (if bt217.1 = 0 then ((spec_l40Rd_pick.f k s0_0 bt217.2 4).bind fun bt219 => (some (wrap64 ((wrap64 ((wrap64 (2 * t209)) - 1)) - bt219.1), bt219.2))) else ((spec_l40Rd_pick.f k s0_0 bt217.2 (wrap64 (2 * t209))).bind fun bt221 => (some (bt221.1, bt221.2)))))))
theorem spec_l7Some.mono : ∀ a0 a1 a2 a3 k, LeO (spec_l7Some.f k a0 a1 a2 a3) (spec_l7Some.f (k + 1) a0 a1 a2 a3) := by
 intro a0 a1 a2 a3 k
 unfold spec_l7Some.f
 repeat' first
   | (with_reducible exact spec_l40Rd_num.mono _ _ _ _)
   | (with_reducible exact spec_l40Rd_pick.mono _ _ _ _)
   | (with_reducible exact LeO.refl _)
   | (with_reducible exact LeO.none _)
   | (with_reducible refine LeO.ite ?_ ?_)
   | (with_reducible refine LeO.bind ?_ (fun _ => ?_))
   | exact spec_l40Rd_num.mono _ _ _ _
   | exact spec_l40Rd_pick.mono _ _ _ _
   | exact LeO.none _
   | refine LeO.ite ?_ ?_
   | refine LeO.bind ?_ (fun _ => ?_)
set_option maxHeartbeats 8000000 in
set_option maxRecDepth 100000 in
theorem spec_l7Some.calls (k : Nat) (g : Nat) (s0_0 : List Int) (s0_1 : Int) (a1_0 : Int) (A1_1 : Option Addr) (c1_1 : Nat) (l1_1 : List (S57)) (r1 : Int) (r2 : Int) (w0 w : World) (hI : IsS71 w0 w g s0_0 s0_1) (hB : Below w0.heap.size w0 w) (hr1_1 : ∀ W_, KeepBut w W_ g none → Kd.C k57 W_ A1_1 l1_1.length l1_1) (hc1_1 : l1_1.length ≤ c1_1) (h : spec_l7Some.f k s0_0 s0_1 a1_0 l1_1 = some (r1, r2)) :
  Calls Try.prog 36 #[.pointer (some ⟨g, 0, none⟩), .agg #[.int .i64 a1_0, .slice A1_1 l1_1.length c1_1]] w fun e w' => e = .returned (.int .i64 r1) ∧ IsS71 w0 w' g s0_0 r2 ∧ Below w0.heap.size w0 w' ∧ KeepBut w w' g none := by
 have hu28 := Try.underlying28
 have HR1_1 := Yj hr1_1
 have HC1_1 := Yj hc1_1
 clear hr1_1 hc1_1
 have HI0 := Yj hI
 have HK := Yj (KeepBut.refl w g none)
 have HL := Yj hB.size
 clear hI
 have HW0 := Yj hB.size
 have HB := Yj hB
 clear hB
 have H : ((spec_l7Nodes.f a1_0 l1_1).bind fun t209 => ((spec_l40Rd_pick.f k s0_0 s0_1 15).bind fun bt210 => (if bt210.1 = 0 then ((spec_l40Rd_num.f k s0_0 bt210.2 (([wrap64 (2 * t209), (-1)] : List Int))).bind fun bt215 => (some (bt215.1, bt215.2))) else ((spec_l40Rd_pick.f k s0_0 bt210.2 2).bind fun bt217 => (if bt217.1 = 0 then ((spec_l40Rd_pick.f k s0_0 bt217.2 4).bind fun bt219 => (some (wrap64 ((wrap64 ((wrap64 (2 * t209)) - 1)) - bt219.1), bt219.2))) else ((spec_l40Rd_pick.f k s0_0 bt217.2 (wrap64 (2 * t209))).bind fun bt221 => (some (bt221.1, bt221.2)))))))) = some (r1, r2) := h
 clear h
 replace H := Option.bind_eq_some_iff.mp H
 obtain ⟨t209, A30, H⟩ := H
 replace H : ((spec_l40Rd_pick.f k s0_0 s0_1 15).bind fun bt210 => (if bt210.1 = 0 then ((spec_l40Rd_num.f k s0_0 bt210.2 (([wrap64 (2 * t209), (-1)] : List Int))).bind fun bt215 => (some (bt215.1, bt215.2))) else ((spec_l40Rd_pick.f k s0_0 bt210.2 2).bind fun bt217 => (if bt217.1 = 0 then ((spec_l40Rd_pick.f k s0_0 bt217.2 4).bind fun bt219 => (some (wrap64 ((wrap64 ((wrap64 (2 * t209)) - 1)) - bt219.1), bt219.2))) else ((spec_l40Rd_pick.f k s0_0 bt217.2 (wrap64 (2 * t209))).bind fun bt221 => (some (bt221.1, bt221.2))))))) = some (r1, r2) := H
 have A3 := Yj A30
 clear A30
 replace H := Option.bind_eq_some_iff.mp H
 obtain ⟨⟨t210, t211⟩, A40, H⟩ := H
 replace H : (if t210 = 0 then ((spec_l40Rd_num.f k s0_0 t211 (([wrap64 (2 * t209), (-1)] : List Int))).bind fun bt215 => (some (bt215.1, bt215.2))) else ((spec_l40Rd_pick.f k s0_0 t211 2).bind fun bt217 => (if bt217.1 = 0 then ((spec_l40Rd_pick.f k s0_0 bt217.2 4).bind fun bt219 => (some (wrap64 ((wrap64 ((wrap64 (2 * t209)) - 1)) - bt219.1), bt219.2))) else ((spec_l40Rd_pick.f k s0_0 bt217.2 (wrap64 (2 * t209))).bind fun bt221 => (some (bt221.1, bt221.2)))))) = some (r1, r2) := H
 have A4 := Yj A40
 clear A40
 by_cases c5 : t210 = 0
 ·rw [if_pos c5] at H
  have c5b0 : (t210 == 0) = true := beq_iff_eq.mpr c5
  have c5b1 : (t210 != 0) = false := bne_eq_false_iff_eq.mpr c5
  clear c5
  obtain ⟨y212, hy212⟩ : ∃ y_ : List Int, y_ = (([wrap64 (2 * t209), (-1)] : List Int)) := ⟨_, rfl⟩
  replace H : ((spec_l40Rd_num.f k s0_0 t211 y212).bind fun bt215 => (some (bt215.1, bt215.2))) = some (r1, r2) := by first | (rw [hy212]; with_reducible exact H) | (have H2_ := (Option.bind_some _ _).symm.trans H; rw [hy212]; with_reducible exact H2_) | (have H2_ := (Option.bind_some _ _).symm.trans H; with_reducible exact H2_) | with_reducible exact H | (rw [hy212]; exact H) | exact H
  have Ny212 := Yj hy212
  clear hy212
  replace H := Option.bind_eq_some_iff.mp H
  obtain ⟨⟨t215, t216⟩, A60, H⟩ := H
  replace H : (some (t215, t216)) = some (r1, r2) := H
  have A6 := Yj A60
  clear A60
  simp only [Option.some.injEq, Prod.mk.injEq] at H
  obtain ⟨rfl, rfl⟩ := H
  go_enter Try.func36, Try.ntmps36
  go_wp2_with (first | ((with_reducible refine gate_dst (N := 3) rfl ?_); refine box_event ?hg (N := 3) ?hd (cs := #[.int .i64 a1_0, .slice A1_1 l1_1.length c1_1]) (t := 28) ?hr ?_; (case hd => rfl); (case hg => rfl); (case hr => first | (go_simp; done) | (go_simp; rfl)); intro gb208 hg w7 hbox hb; have n0_ := Yj (IsS71.below (by repeat (first | (with_reducible first | exact HI0.out | apply IsS71.alloc | apply IsS71.drewN | apply IsS71.drew | apply IsS71.set_1) | exact HI0.out)) hb); have n1_ := Yj (KeepBut.trans (by repeat (first | (with_reducible first | exact HK.out | apply KeepBut.set_ | apply keep_drewN | apply keep_drew | apply keep_alloc) | exact HK.out)) (KeepBut.of_below hb g none) (.inl rfl)); have n2_ := Yj (below_step (by repeat (first | (with_reducible first | exact HB.out | apply Yf | apply Yg | apply Yh | refine Yi ?_ (IsS71.ge HI0.out)) | exact HB.out)) hb); have n3_ := Yj (hbox); have n4_ := Yj ((by rw [hg]; exact (keep_size (w := w) (g := g) (row := none) (by repeat (first | (with_reducible first | exact HK.out | apply KeepBut.set_ | apply keep_drewN | apply keep_drew | apply keep_alloc) | exact HK.out))) : w.heap.size ≤ gb208)); have n5_ := Yj ((Nat.le_trans HW0.out (by rw [hg]; exact (keep_size (w := w) (g := g) (row := none) (by repeat (first | (with_reducible first | exact HK.out | apply KeepBut.set_ | apply keep_drewN | apply keep_drew | apply keep_alloc) | exact HK.out))) : w.heap.size ≤ gb208) : w0.heap.size ≤ gb208)); have n6_ := Yj ((by rw [hg]; exact Nat.ne_of_lt (IsS71.lt (show IsS71 w0 _ g s0_0 s0_1 from by repeat (first | (with_reducible first | exact HI0.out | apply IsS71.alloc | apply IsS71.drewN | apply IsS71.drew | apply IsS71.set_1) | exact HI0.out))) : g ≠ gb208)); have n7_ := Yj ((by rw [hg]; exact Nat.ne_of_gt (IsS71.lt (show IsS71 w0 _ g s0_0 s0_1 from by repeat (first | (with_reducible first | exact HI0.out | apply IsS71.alloc | apply IsS71.drewN | apply IsS71.drew | apply IsS71.set_1) | exact HI0.out))) : gb208 ≠ g)); clear HI0; clear HK; clear HB; have HI0 := n0_; have HK := n1_; have HB := n2_; have BK208 := n3_; have GW208 := n4_; have GE208 := n5_; have NB0_208 := n6_; have NB208_0 := n7_; clear n0_ n1_ n2_ n3_ n4_ n5_ n6_ n7_; clear hb hbox hg; have hnb8 := NB208_0.out; have hnc8 := NB0_208.out; have hcz9_0 : w7.cell? ⟨gb208, 0, none⟩ = some (.int .i64 a1_0) := (Yd BK208.out 0).trans rfl; have hcz9_1 : w7.cell? ⟨gb208, 1, none⟩ = some (.slice A1_1 l1_1.length c1_1) := (Yd BK208.out 1).trans rfl; have hfz9_0 := Ye BK208.out 0; have hfz9_1 := Ye BK208.out 1) | ((with_reducible refine gate_callee (f := 38) rfl ?_); refine goesL_ (some 7) rfl rfl Try.func38 (by kernel_rfl) rfl #[.agg #[.int .i64 a1_0, .slice A1_1 l1_1.length c1_1]] rfl (by (try simp only [List.map_toArray, List.map_cons, List.map_nil]); first | done | rfl | (simp only [List.length_drop, List.length_take]; rfl)) ?_; (with_reducible refine (spec_l7Nodes.calls a1_0 _ _ l1_1 t209 _ ?side1 ?side2 A3.out).mono ?_); (case side1 => exact Kd.C_foot_now HR1_1.out (by repeat (first | (with_reducible first | exact HK.out | apply KeepBut.set_ | apply keep_drewN | apply keep_drew | apply keep_alloc | refine keep_far ?_ GW208.out _) | exact HK.out))); (case side2 => exact HC1_1.out); rintro e w10 ⟨rfl, hb⟩; refine ⟨_, rfl, ?_⟩; have n0_ := Yj (IsS71.below (by repeat (first | (with_reducible first | exact HI0.out | apply IsS71.alloc | apply IsS71.drewN | apply IsS71.drew | apply IsS71.set_1 | refine IsS71.far ?_ NB0_208.out _) | exact HI0.out)) hb); have n1_ := Yj (blk_below (g := gb208) (o := .cells #[.int .i64 a1_0, .slice A1_1 l1_1.length c1_1] 28 (0, 0)) (by (with_reducible repeat (first | refine Ya ?_ _ | refine Yb ?_ | refine Yc ?_ _)); exact BK208.out) hb); have n2_ := Yj (KeepBut.trans (by repeat (first | (with_reducible first | exact HK.out | apply KeepBut.set_ | apply keep_drewN | apply keep_drew | apply keep_alloc | refine keep_far ?_ GW208.out _) | exact HK.out)) (KeepBut.of_below hb g none) (.inl rfl)); have n3_ := Yj (below_step (by repeat (first | (with_reducible first | exact HB.out | apply Yf | apply Yg | apply Yh | refine Yi ?_ (IsS71.ge HI0.out) | refine Yi ?_ GE208.out) | exact HB.out)) hb); clear HI0; clear BK208; clear HK; clear HB; have HI0 := n0_; have BK208 := n1_; have HK := n2_; have HB := n3_; clear n0_ n1_ n2_ n3_; (try clear hb); (try clear hb2); (try clear hk); (try clear hi)) | ((with_reducible refine gate_callee (f := 35) rfl ?_); refine goesL_ (some 10) rfl rfl Try.func35 (by kernel_rfl) rfl #[.pointer (some ⟨g, 0, none⟩), .int .i64 15] rfl (by (try simp only [List.map_toArray, List.map_cons, List.map_nil]); first | done | rfl | (simp only [List.length_drop, List.length_take]; rfl)) ?_; (with_reducible refine (spec_l40Rd_pick.calls k g s0_0 s0_1 15 t210 t211 w0 _ ?side1 ?side2 A4.out).mono ?_); (case side1 => repeat (first | (with_reducible first | exact HI0.out | apply IsS71.alloc | apply IsS71.drewN | apply IsS71.drew | apply IsS71.set_1 | refine IsS71.far ?_ NB0_208.out _) | exact HI0.out)); (case side2 => repeat (first | (with_reducible first | exact HB.out | apply Yf | apply Yg | apply Yh | refine Yi ?_ (IsS71.ge HI0.out) | refine Yi ?_ GE208.out) | exact HB.out)); rintro e w11 ⟨rfl, hi, hb, hk⟩; refine ⟨_, rfl, ?_⟩; have n0_ := Yj (KeepBut.blk hk (g' := gb208) (o := .cells #[.int .i64 a1_0, .slice A1_1 l1_1.length c1_1] 28 (0, 0)) (by (with_reducible repeat (first | refine Ya ?_ _ | refine Yb ?_ | refine Yc ?_ _)); exact BK208.out) NB208_0.out (by simp)); have n1_ := Yj (KeepBut.trans (by repeat (first | (with_reducible first | exact HK.out | apply KeepBut.set_ | apply keep_drewN | apply keep_drew | apply keep_alloc | refine keep_far ?_ GW208.out _) | exact HK.out)) hk (.inl rfl)); have n2_ := Yj (hb); have n3_ := Yj (hi); clear BK208; clear HK; clear HB; clear HI0; have BK208 := n0_; have HK := n1_; have HB := n2_; have HI0 := n3_; clear n0_ n1_ n2_ n3_; (try clear hb); (try clear hb2); (try clear hk); (try clear hi)) | ((with_reducible refine gate_dst (N := 14) rfl ?_); refine Kd.R_lit (Kd.int .i64) _ 3 ?hg (N := 14) ?hd (xs := ([wrap64 (2 * t209), (-1)] : List Int)) (inner := [.int .i64 (wrap64 (2 * t209)), .int .i64 (-1)]) (ok := fun _ => True) (okp := fun _ => True) ?hr ?hp (fun _ hk => hk) trivial (Below.refl _ _) (Nat.le_refl _) (by simp) ?_; (case hd => rfl); (case hg => rfl); (case hr => first | (go_simp; done) | (go_simp; rfl)); (case hp => exact (Reps.one (show Kd.M (Kd.int .i64) _ _ _ (wrap64 (2 * t209)) [.int .i64 (wrap64 (2 * t209))] from rfl) (Reps.one (show Kd.M (Kd.int .i64) _ _ _ (-1) [.int .i64 (-1)] from rfl) (Reps.none _ _)))); intro v213 w12 ho13 hb hg_ hnew_; clear hg_ hnew_; (first | rw [← Ny212.out] at ho13 | (simp only [Int.reduceToNat] at ho13; rw [← Ny212.out] at ho13)); have n0_ := Yj (Kd.R_lower ho13 (keep_size (w := w) (g := g) (row := none) (by repeat (first | (with_reducible first | exact HK.out | apply KeepBut.set_ | apply keep_drewN | apply keep_drew | apply keep_alloc | refine keep_far ?_ GW208.out _) | exact HK.out)))); have n1_ := Yj (IsS71.below (by repeat (first | (with_reducible first | exact HI0.out | apply IsS71.alloc | apply IsS71.drewN | apply IsS71.drew | apply IsS71.set_1 | refine IsS71.far ?_ NB0_208.out _) | exact HI0.out)) hb); have n2_ := Yj (blk_below (g := gb208) (o := .cells #[.int .i64 a1_0, .slice A1_1 l1_1.length c1_1] 28 (0, 0)) (by (with_reducible repeat (first | refine Ya ?_ _ | refine Yb ?_ | refine Yc ?_ _)); exact BK208.out) hb); have n3_ := Yj (KeepBut.trans (by repeat (first | (with_reducible first | exact HK.out | apply KeepBut.set_ | apply keep_drewN | apply keep_drew | apply keep_alloc | refine keep_far ?_ GW208.out _) | exact HK.out)) (KeepBut.of_below hb g none) (.inl rfl)); have n4_ := Yj (below_step (by repeat (first | (with_reducible first | exact HB.out | apply Yf | apply Yg | apply Yh | refine Yi ?_ (IsS71.ge HI0.out) | refine Yi ?_ GE208.out) | exact HB.out)) hb); clear HI0; clear BK208; clear HK; clear HB; have HO214 := n0_; have HI0 := n1_; have BK208 := n2_; have HK := n3_; have HB := n4_; clear n0_ n1_ n2_ n3_ n4_; clear hb ho13; obtain ⟨Ao14, co14, eo14⟩ := Kd.R_slice HO214.out; subst eo14) | ((with_reducible refine gate_callee (f := 47) rfl ?_); refine goesL_ (some 15) rfl rfl Try.func47 (by kernel_rfl) rfl #[.pointer (some ⟨g, 0, none⟩), .slice Ao14 y212.length co14] rfl (by (try simp only [List.map_toArray, List.map_cons, List.map_nil]); first | done | rfl | (simp only [List.length_drop, List.length_take]; rfl)) ?_; (with_reducible refine (spec_l40Rd_num.calls k g s0_0 t211 _ _ y212 t215 t216 w0 _ ?side1 ?side2 ?side3 ?side4 ?side5 A6.out).mono ?_); (case side1 => repeat (first | (with_reducible first | exact HI0.out | apply IsS71.alloc | apply IsS71.drewN | apply IsS71.drew | apply IsS71.set_1 | refine IsS71.far ?_ NB0_208.out _) | exact HI0.out)); (case side2 => repeat (first | (with_reducible first | exact HB.out | apply Yf | apply Yg | apply Yh | refine Yi ?_ (IsS71.ge HI0.out) | refine Yi ?_ GE208.out) | exact HB.out)); (case side3 => repeat (first | exact (Kd.R_reads' HO214.out).2.2 | (with_reducible refine Kd.C_alloc ?_ _) | (with_reducible refine Kd.C_drewN ?_ _) | (with_reducible refine Kd.C_drew ?_))); (case side4 => exact (Kd.R_reads' HO214.out).2.1); (case side5 => exact far_slice (IsS71.own_ne HI0.out HO214.out (by decide))); rintro e w15 ⟨rfl, hi, hb, hk⟩; refine ⟨_, rfl, ?_⟩; have n0_ := Yj (KeepBut.blk hk (g' := gb208) (o := .cells #[.int .i64 a1_0, .slice A1_1 l1_1.length c1_1] 28 (0, 0)) (by (with_reducible repeat (first | refine Ya ?_ _ | refine Yb ?_ | refine Yc ?_ _)); exact BK208.out) NB208_0.out (by simp)); have n1_ := Yj (Kd.R_mono (Kd.R_keep (IsS71.apart (show IsS71 w0 _ g s0_0 t211 from by repeat (first | (with_reducible first | exact HI0.out | apply IsS71.alloc | apply IsS71.drewN | apply IsS71.drew | apply IsS71.set_1 | refine IsS71.far ?_ NB0_208.out _) | exact HI0.out)) (by (with_reducible repeat (first | apply Yl | apply Yk | apply Kd.R_drew)); exact HO214.out) (by decide)) hk (fun _ h => h.2)) (fun _ h => h.1)); have n2_ := Yj (KeepBut.trans (by repeat (first | (with_reducible first | exact HK.out | apply KeepBut.set_ | apply keep_drewN | apply keep_drew | apply keep_alloc | refine keep_far ?_ GW208.out _) | exact HK.out)) hk (.inl rfl)); have n3_ := Yj (hb); have n4_ := Yj (hi); clear BK208; clear HO214; clear HK; clear HB; clear HI0; have BK208 := n0_; have HO214 := n1_; have HK := n2_; have HB := n3_; have HI0 := n4_; clear n0_ n1_ n2_ n3_ n4_; (try clear hb); (try clear hb2); (try clear hk); (try clear hi)))
  go_ret
  exact ⟨by first | rfl | (simp [errW_none, errW_some] <;> rfl) | (simp [*, errW_none, errW_some] <;> rfl), by repeat (first | (with_reducible first | exact HI0.out | apply IsS71.alloc | apply IsS71.drewN | apply IsS71.drew | apply IsS71.set_1 | refine IsS71.far ?_ NB0_208.out _) | exact HI0.out), by repeat (first | (with_reducible first | exact HB.out | apply Yf | apply Yg | apply Yh | refine Yi ?_ (IsS71.ge HI0.out) | refine Yi ?_ GE208.out) | exact HB.out), by repeat (first | (with_reducible first | exact HK.out | apply KeepBut.set_ | apply keep_drewN | apply keep_drew | apply keep_alloc | refine keep_far ?_ GW208.out _) | exact HK.out)⟩
 ·rw [if_neg c5] at H
  have c5b0 : (t210 == 0) = false := beq_eq_false_iff_ne.mpr c5
  have c5b1 : (t210 != 0) = true := bne_iff_ne.mpr c5
  replace H := Option.bind_eq_some_iff.mp H
  obtain ⟨⟨t217, t218⟩, A160, H⟩ := H
  replace H : (if t217 = 0 then ((spec_l40Rd_pick.f k s0_0 t218 4).bind fun bt219 => (some (wrap64 ((wrap64 ((wrap64 (2 * t209)) - 1)) - bt219.1), bt219.2))) else ((spec_l40Rd_pick.f k s0_0 t218 (wrap64 (2 * t209))).bind fun bt221 => (some (bt221.1, bt221.2)))) = some (r1, r2) := H
  have A16 := Yj A160
  clear A160
  by_cases c17 : t217 = 0
  ·rw [if_pos c17] at H
   have c17b0 : (t217 == 0) = true := beq_iff_eq.mpr c17
   have c17b1 : (t217 != 0) = false := bne_eq_false_iff_eq.mpr c17
   clear c17
   replace H := Option.bind_eq_some_iff.mp H
   obtain ⟨⟨t219, t220⟩, A180, H⟩ := H
   replace H : (some (wrap64 ((wrap64 ((wrap64 (2 * t209)) - 1)) - t219), t220)) = some (r1, r2) := H
   have A18 := Yj A180
   clear A180
   simp only [Option.some.injEq, Prod.mk.injEq] at H
   obtain ⟨rfl, rfl⟩ := H
   go_enter Try.func36, Try.ntmps36
   go_wp2_with (first | ((with_reducible refine gate_dst (N := 3) rfl ?_); refine box_event ?hg (N := 3) ?hd (cs := #[.int .i64 a1_0, .slice A1_1 l1_1.length c1_1]) (t := 28) ?hr ?_; (case hd => rfl); (case hg => rfl); (case hr => first | (go_simp; done) | (go_simp; rfl)); intro gb208 hg w19 hbox hb; have n0_ := Yj (IsS71.below (by repeat (first | (with_reducible first | exact HI0.out | apply IsS71.alloc | apply IsS71.drewN | apply IsS71.drew | apply IsS71.set_1) | exact HI0.out)) hb); have n1_ := Yj (KeepBut.trans (by repeat (first | (with_reducible first | exact HK.out | apply KeepBut.set_ | apply keep_drewN | apply keep_drew | apply keep_alloc) | exact HK.out)) (KeepBut.of_below hb g none) (.inl rfl)); have n2_ := Yj (below_step (by repeat (first | (with_reducible first | exact HB.out | apply Yf | apply Yg | apply Yh | refine Yi ?_ (IsS71.ge HI0.out)) | exact HB.out)) hb); have n3_ := Yj (hbox); have n4_ := Yj ((by rw [hg]; exact (keep_size (w := w) (g := g) (row := none) (by repeat (first | (with_reducible first | exact HK.out | apply KeepBut.set_ | apply keep_drewN | apply keep_drew | apply keep_alloc) | exact HK.out))) : w.heap.size ≤ gb208)); have n5_ := Yj ((Nat.le_trans HW0.out (by rw [hg]; exact (keep_size (w := w) (g := g) (row := none) (by repeat (first | (with_reducible first | exact HK.out | apply KeepBut.set_ | apply keep_drewN | apply keep_drew | apply keep_alloc) | exact HK.out))) : w.heap.size ≤ gb208) : w0.heap.size ≤ gb208)); have n6_ := Yj ((by rw [hg]; exact Nat.ne_of_lt (IsS71.lt (show IsS71 w0 _ g s0_0 s0_1 from by repeat (first | (with_reducible first | exact HI0.out | apply IsS71.alloc | apply IsS71.drewN | apply IsS71.drew | apply IsS71.set_1) | exact HI0.out))) : g ≠ gb208)); have n7_ := Yj ((by rw [hg]; exact Nat.ne_of_gt (IsS71.lt (show IsS71 w0 _ g s0_0 s0_1 from by repeat (first | (with_reducible first | exact HI0.out | apply IsS71.alloc | apply IsS71.drewN | apply IsS71.drew | apply IsS71.set_1) | exact HI0.out))) : gb208 ≠ g)); clear HI0; clear HK; clear HB; have HI0 := n0_; have HK := n1_; have HB := n2_; have BK208 := n3_; have GW208 := n4_; have GE208 := n5_; have NB0_208 := n6_; have NB208_0 := n7_; clear n0_ n1_ n2_ n3_ n4_ n5_ n6_ n7_; clear hb hbox hg; have hnb20 := NB208_0.out; have hnc20 := NB0_208.out; have hcz21_0 : w19.cell? ⟨gb208, 0, none⟩ = some (.int .i64 a1_0) := (Yd BK208.out 0).trans rfl; have hcz21_1 : w19.cell? ⟨gb208, 1, none⟩ = some (.slice A1_1 l1_1.length c1_1) := (Yd BK208.out 1).trans rfl; have hfz21_0 := Ye BK208.out 0; have hfz21_1 := Ye BK208.out 1) | ((with_reducible refine gate_callee (f := 38) rfl ?_); refine goesL_ (some 7) rfl rfl Try.func38 (by kernel_rfl) rfl #[.agg #[.int .i64 a1_0, .slice A1_1 l1_1.length c1_1]] rfl (by (try simp only [List.map_toArray, List.map_cons, List.map_nil]); first | done | rfl | (simp only [List.length_drop, List.length_take]; rfl)) ?_; (with_reducible refine (spec_l7Nodes.calls a1_0 _ _ l1_1 t209 _ ?side1 ?side2 A3.out).mono ?_); (case side1 => exact Kd.C_foot_now HR1_1.out (by repeat (first | (with_reducible first | exact HK.out | apply KeepBut.set_ | apply keep_drewN | apply keep_drew | apply keep_alloc | refine keep_far ?_ GW208.out _) | exact HK.out))); (case side2 => exact HC1_1.out); rintro e w22 ⟨rfl, hb⟩; refine ⟨_, rfl, ?_⟩; have n0_ := Yj (IsS71.below (by repeat (first | (with_reducible first | exact HI0.out | apply IsS71.alloc | apply IsS71.drewN | apply IsS71.drew | apply IsS71.set_1 | refine IsS71.far ?_ NB0_208.out _) | exact HI0.out)) hb); have n1_ := Yj (blk_below (g := gb208) (o := .cells #[.int .i64 a1_0, .slice A1_1 l1_1.length c1_1] 28 (0, 0)) (by (with_reducible repeat (first | refine Ya ?_ _ | refine Yb ?_ | refine Yc ?_ _)); exact BK208.out) hb); have n2_ := Yj (KeepBut.trans (by repeat (first | (with_reducible first | exact HK.out | apply KeepBut.set_ | apply keep_drewN | apply keep_drew | apply keep_alloc | refine keep_far ?_ GW208.out _) | exact HK.out)) (KeepBut.of_below hb g none) (.inl rfl)); have n3_ := Yj (below_step (by repeat (first | (with_reducible first | exact HB.out | apply Yf | apply Yg | apply Yh | refine Yi ?_ (IsS71.ge HI0.out) | refine Yi ?_ GE208.out) | exact HB.out)) hb); clear HI0; clear BK208; clear HK; clear HB; have HI0 := n0_; have BK208 := n1_; have HK := n2_; have HB := n3_; clear n0_ n1_ n2_ n3_; (try clear hb); (try clear hb2); (try clear hk); (try clear hi)) | ((with_reducible refine gate_callee (f := 35) rfl ?_); refine goesL_ (some 10) rfl rfl Try.func35 (by kernel_rfl) rfl #[.pointer (some ⟨g, 0, none⟩), .int .i64 15] rfl (by (try simp only [List.map_toArray, List.map_cons, List.map_nil]); first | done | rfl | (simp only [List.length_drop, List.length_take]; rfl)) ?_; (with_reducible refine (spec_l40Rd_pick.calls k g s0_0 s0_1 15 t210 t211 w0 _ ?side1 ?side2 A4.out).mono ?_); (case side1 => repeat (first | (with_reducible first | exact HI0.out | apply IsS71.alloc | apply IsS71.drewN | apply IsS71.drew | apply IsS71.set_1 | refine IsS71.far ?_ NB0_208.out _) | exact HI0.out)); (case side2 => repeat (first | (with_reducible first | exact HB.out | apply Yf | apply Yg | apply Yh | refine Yi ?_ (IsS71.ge HI0.out) | refine Yi ?_ GE208.out) | exact HB.out)); rintro e w23 ⟨rfl, hi, hb, hk⟩; refine ⟨_, rfl, ?_⟩; have n0_ := Yj (KeepBut.blk hk (g' := gb208) (o := .cells #[.int .i64 a1_0, .slice A1_1 l1_1.length c1_1] 28 (0, 0)) (by (with_reducible repeat (first | refine Ya ?_ _ | refine Yb ?_ | refine Yc ?_ _)); exact BK208.out) NB208_0.out (by simp)); have n1_ := Yj (KeepBut.trans (by repeat (first | (with_reducible first | exact HK.out | apply KeepBut.set_ | apply keep_drewN | apply keep_drew | apply keep_alloc | refine keep_far ?_ GW208.out _) | exact HK.out)) hk (.inl rfl)); have n2_ := Yj (hb); have n3_ := Yj (hi); clear BK208; clear HK; clear HB; clear HI0; have BK208 := n0_; have HK := n1_; have HB := n2_; have HI0 := n3_; clear n0_ n1_ n2_ n3_; (try clear hb); (try clear hb2); (try clear hk); (try clear hi)) | ((with_reducible refine gate_callee (f := 35) rfl ?_); refine goesL_ (some 17) rfl rfl Try.func35 (by kernel_rfl) rfl #[.pointer (some ⟨g, 0, none⟩), .int .i64 2] rfl (by (try simp only [List.map_toArray, List.map_cons, List.map_nil]); first | done | rfl | (simp only [List.length_drop, List.length_take]; rfl)) ?_; (with_reducible refine (spec_l40Rd_pick.calls k g s0_0 t211 2 t217 t218 w0 _ ?side1 ?side2 A16.out).mono ?_); (case side1 => repeat (first | (with_reducible first | exact HI0.out | apply IsS71.alloc | apply IsS71.drewN | apply IsS71.drew | apply IsS71.set_1 | refine IsS71.far ?_ NB0_208.out _) | exact HI0.out)); (case side2 => repeat (first | (with_reducible first | exact HB.out | apply Yf | apply Yg | apply Yh | refine Yi ?_ (IsS71.ge HI0.out) | refine Yi ?_ GE208.out) | exact HB.out)); rintro e w24 ⟨rfl, hi, hb, hk⟩; refine ⟨_, rfl, ?_⟩; have n0_ := Yj (KeepBut.blk hk (g' := gb208) (o := .cells #[.int .i64 a1_0, .slice A1_1 l1_1.length c1_1] 28 (0, 0)) (by (with_reducible repeat (first | refine Ya ?_ _ | refine Yb ?_ | refine Yc ?_ _)); exact BK208.out) NB208_0.out (by simp)); have n1_ := Yj (KeepBut.trans (by repeat (first | (with_reducible first | exact HK.out | apply KeepBut.set_ | apply keep_drewN | apply keep_drew | apply keep_alloc | refine keep_far ?_ GW208.out _) | exact HK.out)) hk (.inl rfl)); have n2_ := Yj (hb); have n3_ := Yj (hi); clear BK208; clear HK; clear HB; clear HI0; have BK208 := n0_; have HK := n1_; have HB := n2_; have HI0 := n3_; clear n0_ n1_ n2_ n3_; (try clear hb); (try clear hb2); (try clear hk); (try clear hi)) | ((with_reducible refine gate_callee (f := 35) rfl ?_); refine goesL_ (some 22) rfl rfl Try.func35 (by kernel_rfl) rfl #[.pointer (some ⟨g, 0, none⟩), .int .i64 4] rfl (by (try simp only [List.map_toArray, List.map_cons, List.map_nil]); first | done | rfl | (simp only [List.length_drop, List.length_take]; rfl)) ?_; (with_reducible refine (spec_l40Rd_pick.calls k g s0_0 t218 4 t219 t220 w0 _ ?side1 ?side2 A18.out).mono ?_); (case side1 => repeat (first | (with_reducible first | exact HI0.out | apply IsS71.alloc | apply IsS71.drewN | apply IsS71.drew | apply IsS71.set_1 | refine IsS71.far ?_ NB0_208.out _) | exact HI0.out)); (case side2 => repeat (first | (with_reducible first | exact HB.out | apply Yf | apply Yg | apply Yh | refine Yi ?_ (IsS71.ge HI0.out) | refine Yi ?_ GE208.out) | exact HB.out)); rintro e w25 ⟨rfl, hi, hb, hk⟩; refine ⟨_, rfl, ?_⟩; have n0_ := Yj (KeepBut.blk hk (g' := gb208) (o := .cells #[.int .i64 a1_0, .slice A1_1 l1_1.length c1_1] 28 (0, 0)) (by (with_reducible repeat (first | refine Ya ?_ _ | refine Yb ?_ | refine Yc ?_ _)); exact BK208.out) NB208_0.out (by simp)); have n1_ := Yj (KeepBut.trans (by repeat (first | (with_reducible first | exact HK.out | apply KeepBut.set_ | apply keep_drewN | apply keep_drew | apply keep_alloc | refine keep_far ?_ GW208.out _) | exact HK.out)) hk (.inl rfl)); have n2_ := Yj (hb); have n3_ := Yj (hi); clear BK208; clear HK; clear HB; clear HI0; have BK208 := n0_; have HK := n1_; have HB := n2_; have HI0 := n3_; clear n0_ n1_ n2_ n3_; (try clear hb); (try clear hb2); (try clear hk); (try clear hi)))
   go_ret
   exact ⟨by first | rfl | (simp [errW_none, errW_some] <;> rfl) | (simp [*, errW_none, errW_some] <;> rfl), by repeat (first | (with_reducible first | exact HI0.out | apply IsS71.alloc | apply IsS71.drewN | apply IsS71.drew | apply IsS71.set_1 | refine IsS71.far ?_ NB0_208.out _) | exact HI0.out), by repeat (first | (with_reducible first | exact HB.out | apply Yf | apply Yg | apply Yh | refine Yi ?_ (IsS71.ge HI0.out) | refine Yi ?_ GE208.out) | exact HB.out), by repeat (first | (with_reducible first | exact HK.out | apply KeepBut.set_ | apply keep_drewN | apply keep_drew | apply keep_alloc | refine keep_far ?_ GW208.out _) | exact HK.out)⟩
  ·rw [if_neg c17] at H
   have c17b0 : (t217 == 0) = false := beq_eq_false_iff_ne.mpr c17
   have c17b1 : (t217 != 0) = true := bne_iff_ne.mpr c17
   replace H := Option.bind_eq_some_iff.mp H
   obtain ⟨⟨t221, t222⟩, A260, H⟩ := H
   replace H : (some (t221, t222)) = some (r1, r2) := H
   have A26 := Yj A260
   clear A260
   simp only [Option.some.injEq, Prod.mk.injEq] at H
   obtain ⟨rfl, rfl⟩ := H
   go_enter Try.func36, Try.ntmps36
   go_wp2_with (first | ((with_reducible refine gate_dst (N := 3) rfl ?_); refine box_event ?hg (N := 3) ?hd (cs := #[.int .i64 a1_0, .slice A1_1 l1_1.length c1_1]) (t := 28) ?hr ?_; (case hd => rfl); (case hg => rfl); (case hr => first | (go_simp; done) | (go_simp; rfl)); intro gb208 hg w27 hbox hb; have n0_ := Yj (IsS71.below (by repeat (first | (with_reducible first | exact HI0.out | apply IsS71.alloc | apply IsS71.drewN | apply IsS71.drew | apply IsS71.set_1) | exact HI0.out)) hb); have n1_ := Yj (KeepBut.trans (by repeat (first | (with_reducible first | exact HK.out | apply KeepBut.set_ | apply keep_drewN | apply keep_drew | apply keep_alloc) | exact HK.out)) (KeepBut.of_below hb g none) (.inl rfl)); have n2_ := Yj (below_step (by repeat (first | (with_reducible first | exact HB.out | apply Yf | apply Yg | apply Yh | refine Yi ?_ (IsS71.ge HI0.out)) | exact HB.out)) hb); have n3_ := Yj (hbox); have n4_ := Yj ((by rw [hg]; exact (keep_size (w := w) (g := g) (row := none) (by repeat (first | (with_reducible first | exact HK.out | apply KeepBut.set_ | apply keep_drewN | apply keep_drew | apply keep_alloc) | exact HK.out))) : w.heap.size ≤ gb208)); have n5_ := Yj ((Nat.le_trans HW0.out (by rw [hg]; exact (keep_size (w := w) (g := g) (row := none) (by repeat (first | (with_reducible first | exact HK.out | apply KeepBut.set_ | apply keep_drewN | apply keep_drew | apply keep_alloc) | exact HK.out))) : w.heap.size ≤ gb208) : w0.heap.size ≤ gb208)); have n6_ := Yj ((by rw [hg]; exact Nat.ne_of_lt (IsS71.lt (show IsS71 w0 _ g s0_0 s0_1 from by repeat (first | (with_reducible first | exact HI0.out | apply IsS71.alloc | apply IsS71.drewN | apply IsS71.drew | apply IsS71.set_1) | exact HI0.out))) : g ≠ gb208)); have n7_ := Yj ((by rw [hg]; exact Nat.ne_of_gt (IsS71.lt (show IsS71 w0 _ g s0_0 s0_1 from by repeat (first | (with_reducible first | exact HI0.out | apply IsS71.alloc | apply IsS71.drewN | apply IsS71.drew | apply IsS71.set_1) | exact HI0.out))) : gb208 ≠ g)); clear HI0; clear HK; clear HB; have HI0 := n0_; have HK := n1_; have HB := n2_; have BK208 := n3_; have GW208 := n4_; have GE208 := n5_; have NB0_208 := n6_; have NB208_0 := n7_; clear n0_ n1_ n2_ n3_ n4_ n5_ n6_ n7_; clear hb hbox hg; have hnb28 := NB208_0.out; have hnc28 := NB0_208.out; have hcz29_0 : w27.cell? ⟨gb208, 0, none⟩ = some (.int .i64 a1_0) := (Yd BK208.out 0).trans rfl; have hcz29_1 : w27.cell? ⟨gb208, 1, none⟩ = some (.slice A1_1 l1_1.length c1_1) := (Yd BK208.out 1).trans rfl; have hfz29_0 := Ye BK208.out 0; have hfz29_1 := Ye BK208.out 1) | ((with_reducible refine gate_callee (f := 38) rfl ?_); refine goesL_ (some 7) rfl rfl Try.func38 (by kernel_rfl) rfl #[.agg #[.int .i64 a1_0, .slice A1_1 l1_1.length c1_1]] rfl (by (try simp only [List.map_toArray, List.map_cons, List.map_nil]); first | done | rfl | (simp only [List.length_drop, List.length_take]; rfl)) ?_; (with_reducible refine (spec_l7Nodes.calls a1_0 _ _ l1_1 t209 _ ?side1 ?side2 A3.out).mono ?_); (case side1 => exact Kd.C_foot_now HR1_1.out (by repeat (first | (with_reducible first | exact HK.out | apply KeepBut.set_ | apply keep_drewN | apply keep_drew | apply keep_alloc | refine keep_far ?_ GW208.out _) | exact HK.out))); (case side2 => exact HC1_1.out); rintro e w30 ⟨rfl, hb⟩; refine ⟨_, rfl, ?_⟩; have n0_ := Yj (IsS71.below (by repeat (first | (with_reducible first | exact HI0.out | apply IsS71.alloc | apply IsS71.drewN | apply IsS71.drew | apply IsS71.set_1 | refine IsS71.far ?_ NB0_208.out _) | exact HI0.out)) hb); have n1_ := Yj (blk_below (g := gb208) (o := .cells #[.int .i64 a1_0, .slice A1_1 l1_1.length c1_1] 28 (0, 0)) (by (with_reducible repeat (first | refine Ya ?_ _ | refine Yb ?_ | refine Yc ?_ _)); exact BK208.out) hb); have n2_ := Yj (KeepBut.trans (by repeat (first | (with_reducible first | exact HK.out | apply KeepBut.set_ | apply keep_drewN | apply keep_drew | apply keep_alloc | refine keep_far ?_ GW208.out _) | exact HK.out)) (KeepBut.of_below hb g none) (.inl rfl)); have n3_ := Yj (below_step (by repeat (first | (with_reducible first | exact HB.out | apply Yf | apply Yg | apply Yh | refine Yi ?_ (IsS71.ge HI0.out) | refine Yi ?_ GE208.out) | exact HB.out)) hb); clear HI0; clear BK208; clear HK; clear HB; have HI0 := n0_; have BK208 := n1_; have HK := n2_; have HB := n3_; clear n0_ n1_ n2_ n3_; (try clear hb); (try clear hb2); (try clear hk); (try clear hi)) | ((with_reducible refine gate_callee (f := 35) rfl ?_); refine goesL_ (some 10) rfl rfl Try.func35 (by kernel_rfl) rfl #[.pointer (some ⟨g, 0, none⟩), .int .i64 15] rfl (by (try simp only [List.map_toArray, List.map_cons, List.map_nil]); first | done | rfl | (simp only [List.length_drop, List.length_take]; rfl)) ?_; (with_reducible refine (spec_l40Rd_pick.calls k g s0_0 s0_1 15 t210 t211 w0 _ ?side1 ?side2 A4.out).mono ?_); (case side1 => repeat (first | (with_reducible first | exact HI0.out | apply IsS71.alloc | apply IsS71.drewN | apply IsS71.drew | apply IsS71.set_1 | refine IsS71.far ?_ NB0_208.out _) | exact HI0.out)); (case side2 => repeat (first | (with_reducible first | exact HB.out | apply Yf | apply Yg | apply Yh | refine Yi ?_ (IsS71.ge HI0.out) | refine Yi ?_ GE208.out) | exact HB.out)); rintro e w31 ⟨rfl, hi, hb, hk⟩; refine ⟨_, rfl, ?_⟩; have n0_ := Yj (KeepBut.blk hk (g' := gb208) (o := .cells #[.int .i64 a1_0, .slice A1_1 l1_1.length c1_1] 28 (0, 0)) (by (with_reducible repeat (first | refine Ya ?_ _ | refine Yb ?_ | refine Yc ?_ _)); exact BK208.out) NB208_0.out (by simp)); have n1_ := Yj (KeepBut.trans (by repeat (first | (with_reducible first | exact HK.out | apply KeepBut.set_ | apply keep_drewN | apply keep_drew | apply keep_alloc | refine keep_far ?_ GW208.out _) | exact HK.out)) hk (.inl rfl)); have n2_ := Yj (hb); have n3_ := Yj (hi); clear BK208; clear HK; clear HB; clear HI0; have BK208 := n0_; have HK := n1_; have HB := n2_; have HI0 := n3_; clear n0_ n1_ n2_ n3_; (try clear hb); (try clear hb2); (try clear hk); (try clear hi)) | ((with_reducible refine gate_callee (f := 35) rfl ?_); refine goesL_ (some 17) rfl rfl Try.func35 (by kernel_rfl) rfl #[.pointer (some ⟨g, 0, none⟩), .int .i64 2] rfl (by (try simp only [List.map_toArray, List.map_cons, List.map_nil]); first | done | rfl | (simp only [List.length_drop, List.length_take]; rfl)) ?_; (with_reducible refine (spec_l40Rd_pick.calls k g s0_0 t211 2 t217 t218 w0 _ ?side1 ?side2 A16.out).mono ?_); (case side1 => repeat (first | (with_reducible first | exact HI0.out | apply IsS71.alloc | apply IsS71.drewN | apply IsS71.drew | apply IsS71.set_1 | refine IsS71.far ?_ NB0_208.out _) | exact HI0.out)); (case side2 => repeat (first | (with_reducible first | exact HB.out | apply Yf | apply Yg | apply Yh | refine Yi ?_ (IsS71.ge HI0.out) | refine Yi ?_ GE208.out) | exact HB.out)); rintro e w32 ⟨rfl, hi, hb, hk⟩; refine ⟨_, rfl, ?_⟩; have n0_ := Yj (KeepBut.blk hk (g' := gb208) (o := .cells #[.int .i64 a1_0, .slice A1_1 l1_1.length c1_1] 28 (0, 0)) (by (with_reducible repeat (first | refine Ya ?_ _ | refine Yb ?_ | refine Yc ?_ _)); exact BK208.out) NB208_0.out (by simp)); have n1_ := Yj (KeepBut.trans (by repeat (first | (with_reducible first | exact HK.out | apply KeepBut.set_ | apply keep_drewN | apply keep_drew | apply keep_alloc | refine keep_far ?_ GW208.out _) | exact HK.out)) hk (.inl rfl)); have n2_ := Yj (hb); have n3_ := Yj (hi); clear BK208; clear HK; clear HB; clear HI0; have BK208 := n0_; have HK := n1_; have HB := n2_; have HI0 := n3_; clear n0_ n1_ n2_ n3_; (try clear hb); (try clear hb2); (try clear hk); (try clear hi)) | ((with_reducible refine gate_callee (f := 35) rfl ?_); refine goesL_ (some 26) rfl rfl Try.func35 (by kernel_rfl) rfl #[.pointer (some ⟨g, 0, none⟩), .int .i64 (wrap64 (2 * t209))] rfl (by (try simp only [List.map_toArray, List.map_cons, List.map_nil]); first | done | rfl | (simp only [List.length_drop, List.length_take]; rfl)) ?_; (with_reducible refine (spec_l40Rd_pick.calls k g s0_0 t218 (wrap64 (2 * t209)) t221 t222 w0 _ ?side1 ?side2 A26.out).mono ?_); (case side1 => repeat (first | (with_reducible first | exact HI0.out | apply IsS71.alloc | apply IsS71.drewN | apply IsS71.drew | apply IsS71.set_1 | refine IsS71.far ?_ NB0_208.out _) | exact HI0.out)); (case side2 => repeat (first | (with_reducible first | exact HB.out | apply Yf | apply Yg | apply Yh | refine Yi ?_ (IsS71.ge HI0.out) | refine Yi ?_ GE208.out) | exact HB.out)); rintro e w33 ⟨rfl, hi, hb, hk⟩; refine ⟨_, rfl, ?_⟩; have n0_ := Yj (KeepBut.blk hk (g' := gb208) (o := .cells #[.int .i64 a1_0, .slice A1_1 l1_1.length c1_1] 28 (0, 0)) (by (with_reducible repeat (first | refine Ya ?_ _ | refine Yb ?_ | refine Yc ?_ _)); exact BK208.out) NB208_0.out (by simp)); have n1_ := Yj (KeepBut.trans (by repeat (first | (with_reducible first | exact HK.out | apply KeepBut.set_ | apply keep_drewN | apply keep_drew | apply keep_alloc | refine keep_far ?_ GW208.out _) | exact HK.out)) hk (.inl rfl)); have n2_ := Yj (hb); have n3_ := Yj (hi); clear BK208; clear HK; clear HB; clear HI0; have BK208 := n0_; have HK := n1_; have HB := n2_; have HI0 := n3_; clear n0_ n1_ n2_ n3_; (try clear hb); (try clear hb2); (try clear hk); (try clear hi)))
   go_ret
   exact ⟨by first | rfl | (simp [errW_none, errW_some] <;> rfl) | (simp [*, errW_none, errW_some] <;> rfl), by repeat (first | (with_reducible first | exact HI0.out | apply IsS71.alloc | apply IsS71.drewN | apply IsS71.drew | apply IsS71.set_1 | refine IsS71.far ?_ NB0_208.out _) | exact HI0.out), by repeat (first | (with_reducible first | exact HB.out | apply Yf | apply Yg | apply Yh | refine Yi ?_ (IsS71.ge HI0.out) | refine Yi ?_ GE208.out) | exact HB.out), by repeat (first | (with_reducible first | exact HK.out | apply KeepBut.set_ | apply keep_drewN | apply keep_drew | apply keep_alloc | refine keep_far ?_ GW208.out _) | exact HK.out)⟩

end Go.Proofs.Ythphgkhmeobadaa.XFnAddAndOr
