/- Printed by a program of this session out of the translation: the Go functions that a law uses as plain Lean functions, with the proofs of their calls, or the law's row.
Conditions: those that each theorem states. -/
import Derived.Test.YthphgkhmeobadaaXFnAddAndOrx0
import Derived.Test.YthphgkhmeobadaaXFnAddAndOrx7
import Derived.Test.YthphgkhmeobadaaXFnAddAndOrx9
namespace Go.Proofs.Ythphgkhmeobadaa.XFnAddAndOr
open Go.RowKit Go.Proofs.YthphgkhmeobadaaW.PrintWords Go.Proofs.YthphgkhmeobadaaW.PrintLast Go.Proofs.YthphgkhmeobadaaW.PrintMore
attribute [local go_sem] max2_int min2_int max_two min_two max_three min_three max_four min_four   -- for this text's walks alone
set_option linter.unusedVariables false
set_option linter.unusedSimpArgs false

/-! ### spec_DrawAddAnd: function 15 -/
mutual
def spec_DrawAddAnd.j1 : Nat → List Int → Int → Int → List (S57) → Option (Int × (List (S57)) × Int × Int)
 | 0, _, _, _, _ => none
 | k + 1, x227000, x227001, x233000, x233001 => if (x233001.length : Int) > 0 then ((spec_l40Rd_pick.f k x227000 x227001 5).bind fun bt243 => (spec_DrawAddAnd.j2 k (bt243.1 == 0) x227000 bt243.2 x233000 x233001)) else (spec_DrawAddAnd.j2 k false x227000 x227001 x233000 x233001)
def spec_DrawAddAnd.j2 : Nat → Bool → List Int → Int → Int → List (S57) → Option (Int × (List (S57)) × Int × Int)
 | 0, _, _, _, _, _ => none
 | k + 1, x39, x227000, x227001, x233000, x233001 => if x39 = true then (if 0 < (x233001.length : Int) then (some (x233000, x233001, (rd_T57 x233001 0).f1, (rd_T57 x233001 0).f0)) else (none)) else ((spec_l7Some.f k x227000 x227001 x233000 x233001).bind fun bt247 => ((spec_l7Some.f k x227000 bt247.2 x233000 x233001).bind fun bt249 => (some (x233000, x233001, bt247.1, bt249.1))))
def spec_DrawAddAnd.l0 : Nat → List Int → Int → Int → List (S57) → Option (Int × (List (S57)) × Int × Int)
 | 0, _, _, _, _ => none
 | k + 1, x227000, x227001, x233000, x233001 => if (x233001.length : Int) < 600 then (if x233001.length < 8796093022208 then (spec_DrawAddAnd.l0 k x227000 x227001 x233000 (x233001 ++ [(⟨1, 0⟩ : S57)])) else (none)) else ((spec_l40Rd_pick.f k x227000 x227001 3).bind fun bt238 => (if bt238.1 = 0 then (if 599 ≤ (x233001.length : Int) then (spec_DrawAddAnd.j1 k x227000 bt238.2 x233000 (x233001.take (599 : Int).toNat)) else (none)) else (spec_DrawAddAnd.j1 k x227000 bt238.2 x233000 x233001)))
end
def spec_DrawAddAnd.f (k : Nat) (l0 : List Int) : Option (Int × (List (S57)) × Int × Int) := (spec_l40Open.f l0).bind fun bt224 => ((spec_l7Any.f k bt224.1 bt224.2 5).bind fun bt227 => ((spec_l40Rd_pick.f k bt224.1 bt227.2.2 40).bind fun bt233 => (if bt233.1 = 0 then (spec_DrawAddAnd.l0 k bt224.1 bt233.2 bt227.1 bt227.2.1) else (spec_DrawAddAnd.j1 k bt224.1 bt233.2 bt227.1 bt227.2.1))))
theorem spec_DrawAddAnd.mono_l : ∀ k, (∀ y0 y1 y2 y3, LeO (spec_DrawAddAnd.j1 k y0 y1 y2 y3) (spec_DrawAddAnd.j1 (k + 1) y0 y1 y2 y3)) ∧ (∀ y0 y1 y2 y3 y4, LeO (spec_DrawAddAnd.j2 k y0 y1 y2 y3 y4) (spec_DrawAddAnd.j2 (k + 1) y0 y1 y2 y3 y4)) ∧ (∀ y0 y1 y2 y3, LeO (spec_DrawAddAnd.l0 k y0 y1 y2 y3) (spec_DrawAddAnd.l0 (k + 1) y0 y1 y2 y3))
 | 0 => ⟨fun _ _ _ _ r h => by simp [spec_DrawAddAnd.j1] at h, fun _ _ _ _ _ r h => by simp [spec_DrawAddAnd.j2] at h, fun _ _ _ _ r h => by unfold spec_DrawAddAnd.l0 at h; cases h⟩
 | k + 1 => by
  obtain ⟨ih0, ih1, ih2⟩ := spec_DrawAddAnd.mono_l k
  refine ⟨?_, ?_, ?_⟩
  ·intro y0 y1 y2 y3
   unfold spec_DrawAddAnd.j1
   repeat' first
   | (with_reducible exact ih0 _ _ _ _)
   | (with_reducible exact ih1 _ _ _ _ _)
   | (with_reducible exact ih2 _ _ _ _)
   | (with_reducible exact spec_l40Rd_pick.mono _ _ _ _)
   | (with_reducible exact spec_l7Any.mono _ _ _ _)
   | (with_reducible exact spec_l7Some.mono _ _ _ _ _)
   | (with_reducible exact LeO.refl _)
   | (with_reducible exact LeO.none _)
   | (with_reducible refine LeO.ite ?_ ?_)
   | (with_reducible refine LeO.bind ?_ (fun _ => ?_))
   | exact ih0 _ _ _ _
   | exact ih1 _ _ _ _ _
   | exact ih2 _ _ _ _
   | exact spec_l40Rd_pick.mono _ _ _ _
   | exact spec_l7Any.mono _ _ _ _
   | exact spec_l7Some.mono _ _ _ _ _
   | exact LeO.none _
   | refine LeO.ite ?_ ?_
   | refine LeO.bind ?_ (fun _ => ?_)
  ·intro y0 y1 y2 y3 y4
   unfold spec_DrawAddAnd.j2
   repeat' first
   | (with_reducible exact ih0 _ _ _ _)
   | (with_reducible exact ih1 _ _ _ _ _)
   | (with_reducible exact ih2 _ _ _ _)
   | (with_reducible exact spec_l40Rd_pick.mono _ _ _ _)
   | (with_reducible exact spec_l7Any.mono _ _ _ _)
   | (with_reducible exact spec_l7Some.mono _ _ _ _ _)
   | (with_reducible exact LeO.refl _)
   | (with_reducible exact LeO.none _)
   | (with_reducible refine LeO.ite ?_ ?_)
   | (with_reducible refine LeO.bind ?_ (fun _ => ?_))
   | exact ih0 _ _ _ _
   | exact ih1 _ _ _ _ _
   | exact ih2 _ _ _ _
   | exact spec_l40Rd_pick.mono _ _ _ _
   | exact spec_l7Any.mono _ _ _ _
   | exact spec_l7Some.mono _ _ _ _ _
   | exact LeO.none _
   | refine LeO.ite ?_ ?_
   | refine LeO.bind ?_ (fun _ => ?_)
  ·intro y0 y1 y2 y3
   unfold spec_DrawAddAnd.l0
   repeat' first
   | (with_reducible exact ih0 _ _ _ _)
   | (with_reducible exact ih1 _ _ _ _ _)
   | (with_reducible exact ih2 _ _ _ _)
   | (with_reducible exact spec_l40Rd_pick.mono _ _ _ _)
   | (with_reducible exact spec_l7Any.mono _ _ _ _)
   | (with_reducible exact spec_l7Some.mono _ _ _ _ _)
   | (with_reducible exact LeO.refl _)
   | (with_reducible exact LeO.none _)
   | (with_reducible refine LeO.ite ?_ ?_)
   | (with_reducible refine LeO.bind ?_ (fun _ => ?_))
   | exact ih0 _ _ _ _
   | exact ih1 _ _ _ _ _
   | exact ih2 _ _ _ _
   | exact spec_l40Rd_pick.mono _ _ _ _
   | exact spec_l7Any.mono _ _ _ _
   | exact spec_l7Some.mono _ _ _ _ _
   | exact LeO.none _
   | refine LeO.ite ?_ ?_
   | refine LeO.bind ?_ (fun _ => ?_)
theorem spec_DrawAddAnd.mono : ∀ a0 k, LeO (spec_DrawAddAnd.f k a0) (spec_DrawAddAnd.f (k + 1) a0) := by
 intro a0 k
 obtain ⟨ih0, ih1, ih2⟩ := spec_DrawAddAnd.mono_l k
 unfold spec_DrawAddAnd.f
 repeat' first
   | (with_reducible exact ih0 _ _ _ _)
   | (with_reducible exact ih1 _ _ _ _ _)
   | (with_reducible exact ih2 _ _ _ _)
   | (with_reducible exact spec_l40Rd_pick.mono _ _ _ _)
   | (with_reducible exact spec_l7Any.mono _ _ _ _)
   | (with_reducible exact spec_l7Some.mono _ _ _ _ _)
   | (with_reducible exact LeO.refl _)
   | (with_reducible exact LeO.none _)
   | (with_reducible refine LeO.ite ?_ ?_)
   | (with_reducible refine LeO.bind ?_ (fun _ => ?_))
   | exact ih0 _ _ _ _
   | exact ih1 _ _ _ _ _
   | exact ih2 _ _ _ _
   | exact spec_l40Rd_pick.mono _ _ _ _
   | exact spec_l7Any.mono _ _ _ _
   | exact spec_l7Some.mono _ _ _ _ _
   | exact LeO.none _
   | refine LeO.ite ?_ ?_
   | refine LeO.bind ?_ (fun _ => ?_)
def spec_DrawAddAnd.T9 : Bool × List (List Nat × List Nat) := (true, [([], []), ([], []), ([1], [1]), ([2], [2]), ([3], [3]), ([4], [4]), ([], []), ([6], [6]), ([7], [7]), ([8], [8]), ([9], [9]), ([0, 0], [0]), ([5, 11, 0, 1, 2, 3, 4, 5, 11], [5]), ([10, 12, 0, 1, 2, 3, 4, 5, 6, 7, 8, 9, 10, 11, 12], [10])])
def spec_DrawAddAnd.B9 : List Nat := [0, 0, 2, 6, 14, 30, 0, 64, 192, 448, 960, 1, 2111, 8191]
theorem spec_DrawAddAnd.tab9 : rtab .any (opsOf Try.f15 9) = spec_DrawAddAnd.T9 := by kernel_rfl
theorem spec_DrawAddAnd.bits9 : waitsOk spec_DrawAddAnd.T9.2 spec_DrawAddAnd.B9 = true := by kernel_rfl
def spec_DrawAddAnd.T10 : Bool × List (List Nat × List Nat) := (true, [([], []), ([], []), ([], []), ([1, 2], [1, 2]), ([], []), ([], []), ([4, 5, 3], [4, 5]), ([0, 6, 0], [0]), ([3, 7, 0, 1, 2, 3, 7], [3]), ([6, 8, 0, 1, 2, 3, 4, 5, 6, 7, 8], [6])])
def spec_DrawAddAnd.B10 : List Nat := [0, 0, 0, 6, 0, 0, 62, 127, 255, 511]
theorem spec_DrawAddAnd.tab10 : rtab .any (opsOf Try.f15 10) = spec_DrawAddAnd.T10 := by kernel_rfl
theorem spec_DrawAddAnd.bits10 : waitsOk spec_DrawAddAnd.T10.2 spec_DrawAddAnd.B10 = true := by kernel_rfl
set_option maxHeartbeats 8000000 in
set_option maxRecDepth 100000 in
theorem spec_DrawAddAnd.calls (k : Nat) (A0 : Option Addr) (c0 : Nat) (l0 : List Int) (r1 : Int) (r2 : List (S57)) (r3 : Int) (r4 : Int) (w : World) (hr0 : Kd.C (Kd.int .u8) w A0 l0.length l0) (hc0 : l0.length ≤ c0) (h : spec_DrawAddAnd.f k l0 = some (r1, r2, r3, r4)) :
  Calls Try.prog 15 #[.slice A0 l0.length c0] w fun e w' => ∃ v1_ : Value, e = .returned (.tuple #[.agg #[.int .i64 r1, v1_], .int .i64 r3, .int .i64 r4]) ∧ Kd.R k57 57 w' w.heap.size (fun _ => True) v1_ r2 ∧ Below w.heap.size w w' := by
 have hu28 := Try.underlying28
 have hu57 := Try.underlying57
 have HR0 := Yj hr0
 have HC0 := Yj hc0
 clear hr0 hc0
 have HB := Yj (Below.refl w.heap.size w)
 have H : ((spec_l40Open.f l0).bind fun bt224 => ((spec_l7Any.f k bt224.1 bt224.2 5).bind fun bt227 => ((spec_l40Rd_pick.f k bt224.1 bt227.2.2 40).bind fun bt233 => (if bt233.1 = 0 then (spec_DrawAddAnd.l0 k bt224.1 bt233.2 bt227.1 bt227.2.1) else (spec_DrawAddAnd.j1 k bt224.1 bt233.2 bt227.1 bt227.2.1))))) = some (r1, r2, r3, r4) := h
 clear h
 replace H := Option.bind_eq_some_iff.mp H
 obtain ⟨⟨t224, t225⟩, A20, H⟩ := H
 replace H : ((spec_l7Any.f k t224 t225 5).bind fun bt227 => ((spec_l40Rd_pick.f k t224 bt227.2.2 40).bind fun bt233 => (if bt233.1 = 0 then (spec_DrawAddAnd.l0 k t224 bt233.2 bt227.1 bt227.2.1) else (spec_DrawAddAnd.j1 k t224 bt233.2 bt227.1 bt227.2.1)))) = some (r1, r2, r3, r4) := H
 have A2 := Yj A20
 clear A20
 replace H := Option.bind_eq_some_iff.mp H
 obtain ⟨⟨t227, t228, t231⟩, A30, H⟩ := H
 replace H : ((spec_l40Rd_pick.f k t224 t231 40).bind fun bt233 => (if bt233.1 = 0 then (spec_DrawAddAnd.l0 k t224 bt233.2 t227 t228) else (spec_DrawAddAnd.j1 k t224 bt233.2 t227 t228))) = some (r1, r2, r3, r4) := H
 have A3 := Yj A30
 clear A30
 replace H := Option.bind_eq_some_iff.mp H
 obtain ⟨⟨t233, t234⟩, A40, H⟩ := H
 replace H : (if t233 = 0 then (spec_DrawAddAnd.l0 k t224 t234 t227 t228) else (spec_DrawAddAnd.j1 k t224 t234 t227 t228)) = some (r1, r2, r3, r4) := H
 have A4 := Yj A40
 clear A40
 have HC5 := Yj H
 clear H
 go_enter Try.func15, Try.ntmps15
 go_upto_if 13 with (first | ((with_reducible refine gate_dst (N := 2) rfl ?_); refine box_event ?hg (N := 2) ?hd (cs := #[.int .i64 0, .slice none 0 0]) (t := 28) ?hr ?_; (case hd => rfl); (case hg => rfl); (case hr => first | (go_simp; done) | (go_simp; rfl)); intro gb223 hg w6 hbox hb; have n0_ := Yj (below_step (by repeat (first | (with_reducible first | exact HB.out | apply Yf | apply Yg | apply Yh) | exact HB.out)) hb); have n1_ := Yj (hbox); have n2_ := Yj ((by rw [hg]; exact (below_size (by repeat (first | (with_reducible first | exact HB.out | apply Yf | apply Yg | apply Yh) | exact HB.out))) : w.heap.size ≤ gb223)); have n3_ := Yj ((by rw [hg]; exact (below_size (by repeat (first | (with_reducible first | exact HB.out | apply Yf | apply Yg | apply Yh) | exact HB.out))) : w.heap.size ≤ gb223)); clear HB; have HB := n0_; have BK223 := n1_; have GW223 := n2_; have GE223 := n3_; clear n0_ n1_ n2_ n3_; clear hb hbox hg) | ((with_reducible refine gate_callee (f := 33) rfl ?_); refine goesL_ (some 8) rfl rfl Try.func33 (by kernel_rfl) rfl #[.slice A0 l0.length c0] rfl (by (try simp only [List.map_toArray, List.map_cons, List.map_nil]); first | done | rfl | (simp only [List.length_drop, List.length_take]; rfl)) ?_; (with_reducible refine (spec_l40Open.calls _ _ l0 t224 t225 w _ ?side1 ?side2 ?side3 A2.out).mono ?_); (case side1 => repeat (first | (with_reducible first | exact HB.out | apply Yf | apply Yg | apply Yh | refine Yi ?_ GE223.out) | exact HB.out)); (case side2 => exact HR0.out); (case side3 => exact HC0.out); rintro e w7 ⟨g226, rfl, hi, hb, hb2⟩; refine ⟨_, rfl, ?_⟩; have n0_ := Yj (blk_below (g := gb223) (o := .cells #[.int .i64 0, .slice none 0 0] 28 (0, 0)) (by (with_reducible repeat (first | refine Ya ?_ _ | refine Yb ?_ | refine Yc ?_ _)); exact BK223.out) hb2); have n1_ := Yj (hb); have n2_ := Yj (hi); have n3_ := Yj (IsS71.ne_blk hi (blk_below (g := gb223) (o := .cells #[.int .i64 0, .slice none 0 0] 28 (0, 0)) (by (with_reducible repeat (first | refine Ya ?_ _ | refine Yb ?_ | refine Yc ?_ _)); exact BK223.out) hb2) (by decide)); have n4_ := Yj (Ne.symm (IsS71.ne_blk hi (blk_below (g := gb223) (o := .cells #[.int .i64 0, .slice none 0 0] 28 (0, 0)) (by (with_reducible repeat (first | refine Ya ?_ _ | refine Yb ?_ | refine Yc ?_ _)); exact BK223.out) hb2) (by decide))); clear BK223; clear HB; have BK223 := n0_; have HB := n1_; have HI226 := n2_; have NB226_223 := n3_; have NB223_226 := n4_; clear n0_ n1_ n2_ n3_ n4_; (try clear hb); (try clear hb2); (try clear hk); (try clear hi)) | ((with_reducible refine gate_callee (f := 34) rfl ?_); refine goesL_ (some 10) rfl rfl Try.func34 (by kernel_rfl) rfl #[.pointer (some ⟨g226, 0, none⟩), .int .i64 5] rfl (by (try simp only [List.map_toArray, List.map_cons, List.map_nil]); first | done | rfl | (simp only [List.length_drop, List.length_take]; rfl)) ?_; (with_reducible refine (spec_l7Any.calls k g226 t224 t225 5 t227 t228 t231 w _ ?side1 ?side2 A3.out).mono ?_); (case side1 => repeat (first | (with_reducible first | exact HI226.out | apply IsS71.alloc | apply IsS71.drewN | apply IsS71.drew | apply IsS71.set_1 | refine IsS71.far ?_ NB226_223.out _) | exact HI226.out)); (case side2 => repeat (first | (with_reducible first | exact HB.out | apply Yf | apply Yg | apply Yh | refine Yi ?_ (IsS71.ge HI226.out) | refine Yi ?_ GE223.out) | exact HB.out)); rintro e w8 ⟨v229, rfl, ho0, hi, hb, hk⟩; refine ⟨_, rfl, ?_⟩; have n0_ := Yj (KeepBut.blk hk (g' := gb223) (o := .cells #[.int .i64 0, .slice none 0 0] 28 (0, 0)) (by (with_reducible repeat (first | refine Ya ?_ _ | refine Yb ?_ | refine Yc ?_ _)); exact BK223.out) NB223_226.out (by simp)); have n1_ := Yj (Kd.R_lower ho0 (below_size (by repeat (first | (with_reducible first | exact HB.out | apply Yf | apply Yg | apply Yh | refine Yi ?_ (IsS71.ge HI226.out) | refine Yi ?_ GE223.out) | exact HB.out)))); have n2_ := Yj (hb); have n3_ := Yj (hi); clear BK223; clear HB; clear HI226; have BK223 := n0_; have HO230 := n1_; have HB := n2_; have HI226 := n3_; clear n0_ n1_ n2_ n3_; (try clear hb); (try clear hb2); (try clear hk); (try clear hi); (try clear ho0)) | ((with_reducible refine gate_dst (N := 6) rfl ?_); refine box_event ?hg (N := 6) ?hd (cs := #[.int .i64 0, .slice none 0 0]) (t := 28) ?hr ?_; (case hd => rfl); (case hg => rfl); (case hr => first | (go_simp; done) | (go_simp; rfl)); intro gb232 hg w9 hbox hb; have n0_ := Yj (Kd.R_below (by (with_reducible repeat (first | apply Yl | apply Yk | apply Kd.R_drew)); exact HO230.out) hb); have n1_ := Yj (blk_below (g := gb223) (o := .cells #[.int .i64 0, .slice none 0 0] 28 (0, 0)) (by (with_reducible repeat (first | refine Ya ?_ _ | refine Yb ?_ | refine Yc ?_ _)); exact BK223.out) hb); have n2_ := Yj (IsS71.below (by repeat (first | (with_reducible first | exact HI226.out | apply IsS71.alloc | apply IsS71.drewN | apply IsS71.drew | apply IsS71.set_1 | refine IsS71.far ?_ NB226_223.out _) | exact HI226.out)) hb); have n3_ := Yj (below_step (by repeat (first | (with_reducible first | exact HB.out | apply Yf | apply Yg | apply Yh | refine Yi ?_ (IsS71.ge HI226.out) | refine Yi ?_ GE223.out) | exact HB.out)) hb); have n4_ := Yj (hbox); have n5_ := Yj ((by rw [hg]; exact (below_size (by repeat (first | (with_reducible first | exact HB.out | apply Yf | apply Yg | apply Yh | refine Yi ?_ (IsS71.ge HI226.out) | refine Yi ?_ GE223.out) | exact HB.out))) : w.heap.size ≤ gb232)); have n6_ := Yj ((by rw [hg]; exact (below_size (by repeat (first | (with_reducible first | exact HB.out | apply Yf | apply Yg | apply Yh | refine Yi ?_ (IsS71.ge HI226.out) | refine Yi ?_ GE223.out) | exact HB.out))) : w.heap.size ≤ gb232)); have n7_ := Yj ((by rw [hg]; exact Nat.ne_of_lt (blk_lt (g := gb223) (o := .cells #[.int .i64 0, .slice none 0 0] 28 (0, 0)) (by (with_reducible repeat (first | refine Ya ?_ _ | refine Yb ?_ | refine Yc ?_ _)); exact BK223.out)) : gb223 ≠ gb232)); have n8_ := Yj ((by rw [hg]; exact Nat.ne_of_gt (blk_lt (g := gb223) (o := .cells #[.int .i64 0, .slice none 0 0] 28 (0, 0)) (by (with_reducible repeat (first | refine Ya ?_ _ | refine Yb ?_ | refine Yc ?_ _)); exact BK223.out)) : gb232 ≠ gb223)); have n9_ := Yj ((by rw [hg]; exact Nat.ne_of_lt (IsS71.lt (show IsS71 w _ g226 t224 t231 from by repeat (first | (with_reducible first | exact HI226.out | apply IsS71.alloc | apply IsS71.drewN | apply IsS71.drew | apply IsS71.set_1 | refine IsS71.far ?_ NB226_223.out _) | exact HI226.out))) : g226 ≠ gb232)); have n10_ := Yj ((by rw [hg]; exact Nat.ne_of_gt (IsS71.lt (show IsS71 w _ g226 t224 t231 from by repeat (first | (with_reducible first | exact HI226.out | apply IsS71.alloc | apply IsS71.drewN | apply IsS71.drew | apply IsS71.set_1 | refine IsS71.far ?_ NB226_223.out _) | exact HI226.out))) : gb232 ≠ g226)); clear HO230; clear BK223; clear HI226; clear HB; have HO230 := n0_; have BK223 := n1_; have HI226 := n2_; have HB := n3_; have BK232 := n4_; have GW232 := n5_; have GE232 := n6_; have NB223_232 := n7_; have NB232_223 := n8_; have NB226_232 := n9_; have NB232_226 := n10_; clear n0_ n1_ n2_ n3_ n4_ n5_ n6_ n7_ n8_ n9_ n10_; clear hb hbox hg; have hnb10 := NB232_223.out; have hnc10 := NB223_232.out; have hnb11 := NB232_226.out; have hnc11 := NB226_232.out; have hcz12_0 : w9.cell? ⟨gb232, 0, none⟩ = some (.int .i64 0) := (Yd BK232.out 0).trans rfl; have hcz12_1 : w9.cell? ⟨gb232, 1, none⟩ = some (.slice none 0 0) := (Yd BK232.out 1).trans rfl; have hfz12_0 := Ye BK232.out 0; have hfz12_1 := Ye BK232.out 1; obtain ⟨Ao13, co13, eo13⟩ := Kd.R_slice HO230.out; subst eo13) | ((with_reducible refine gate_callee (f := 35) rfl ?_); refine goesL_ (some 12) rfl rfl Try.func35 (by kernel_rfl) rfl #[.pointer (some ⟨g226, 0, none⟩), .int .i64 40] rfl (by (try simp only [List.map_toArray, List.map_cons, List.map_nil]); first | done | rfl | (simp only [List.length_drop, List.length_take]; rfl)) ?_; (with_reducible refine (spec_l40Rd_pick.calls k g226 t224 t231 40 t233 t234 w _ ?side1 ?side2 A4.out).mono ?_); (case side1 => repeat (first | (with_reducible first | exact HI226.out | apply IsS71.alloc | apply IsS71.drewN | apply IsS71.drew | apply IsS71.set_1 | refine IsS71.far ?_ NB226_223.out _ | refine IsS71.far ?_ NB226_232.out _) | exact HI226.out)); (case side2 => repeat (first | (with_reducible first | exact HB.out | apply Yf | apply Yg | apply Yh | refine Yi ?_ (IsS71.ge HI226.out) | refine Yi ?_ GE223.out | refine Yi ?_ GE232.out) | exact HB.out)); rintro e w14 ⟨rfl, hi, hb, hk⟩; refine ⟨_, rfl, ?_⟩; have n0_ := Yj (KeepBut.blk hk (g' := gb223) (o := .cells #[.int .i64 0, .slice none 0 0] 28 (0, 0)) (by (with_reducible repeat (first | refine Ya ?_ _ | refine Yb ?_ | refine Yc ?_ _)); refine blk_far ?_ NB223_232.out _; (with_reducible repeat (first | refine Ya ?_ _ | refine Yb ?_ | refine Yc ?_ _)); refine blk_far ?_ NB223_232.out _; (with_reducible repeat (first | refine Ya ?_ _ | refine Yb ?_ | refine Yc ?_ _)); exact BK223.out) NB223_226.out (by simp)); have n1_ := Yj (Kd.R_mono (Kd.R_keep (IsS71.apart (show IsS71 w _ g226 t224 t231 from by repeat (first | (with_reducible first | exact HI226.out | apply IsS71.alloc | apply IsS71.drewN | apply IsS71.drew | apply IsS71.set_1 | refine IsS71.far ?_ NB226_223.out _ | refine IsS71.far ?_ NB226_232.out _) | exact HI226.out)) (by (with_reducible repeat (first | apply Yl | apply Yk | apply Kd.R_drew)); exact (Kd.R_mono (Kd.R_far (p := ⟨gb232, 1, none⟩) (Kd.R_far (p := ⟨gb232, 0, none⟩) (Kd.R_types HO230.out BK232.out (by decide)) (fun _ hk => hk.2) (.int .i64 t227)) (fun _ hk => hk.2) (.slice Ao13 t228.length co13)) (fun _ h_ => h_.1))) (by decide)) hk (fun _ h => h.2)) (fun _ h => h.1)); have n2_ := Yj (KeepBut.blk hk (g' := gb232) (o := .cells #[.int .i64 t227, .slice Ao13 t228.length co13] 28 (0, 0)) (by (with_reducible repeat (first | refine Ya ?_ _ | refine Yb ?_ | refine Yc ?_ _)); refine blk_put (cs := #[.int .i64 t227, .slice none 0 0]) ?_ 1 _ rfl; (with_reducible repeat (first | refine Ya ?_ _ | refine Yb ?_ | refine Yc ?_ _)); refine blk_put (cs := #[.int .i64 0, .slice none 0 0]) ?_ 0 _ rfl; (with_reducible repeat (first | refine Ya ?_ _ | refine Yb ?_ | refine Yc ?_ _)); exact BK232.out) NB232_226.out (by simp)); have n3_ := Yj (hb); have n4_ := Yj (hi); clear BK223; clear HO230; clear BK232; clear HB; clear HI226; have BK223 := n0_; have HO230 := n1_; have BK232 := n2_; have HB := n3_; have HI226 := n4_; clear n0_ n1_ n2_ n3_ n4_; (try clear hb); (try clear hb2); (try clear hk); (try clear hi)))
 (try simp only [Act.put, List.setIfInBounds_toArray, List.set_cons_zero, List.set_cons_succ])
 go_cut [] (fun wc => ∃ (kq : Nat) (x227001_4 : Int) (x233001_4 : List (S57)) (u233001 : Value), Aside0 (spec_DrawAddAnd.j1 kq t224 x227001_4 t227 x233001_4 = some (r1, r2, r3, r4)) ∧ Aside0 (kq ≤ k) ∧ Aside0 (Kd.R k57 57 wc w.heap.size (fun _ => True) u233001 x233001_4) ∧ Aside0 (wc.heap[gb223]? = some (.cells #[.int .i64 0, (.slice none 0 0)] 28 (0, 0))) ∧ Aside0 (wc.heap[gb232]? = some (.cells #[.int .i64 t227, u233001] 28 (0, 0))) ∧ Aside0 (IsS71 w wc g226 t224 x227001_4) ∧ Aside0 (Below w.heap.size w wc))
 case first =>
  have H := HC5.out
  clear HC5
  by_cases c15 : t233 = 0
  ·rw [if_pos c15] at H
   have c15b0 : (t233 == 0) = true := beq_iff_eq.mpr c15
   have c15b1 : (t233 != 0) = false := bne_eq_false_iff_eq.mpr c15
   clear c15
   skip
   have H' := Yj H
   clear H
   go_wp2
   go_loopg [] k (fun kq w' => ∃ (x233001_1 : List (S57)) (u233001 : Value), Aside0 (spec_DrawAddAnd.l0 kq t224 t234 t227 x233001_1 = some (r1, r2, r3, r4)) ∧ Aside0 (kq ≤ k) ∧ Aside0 (Kd.R k57 57 w' w.heap.size (fun _ => True) u233001 x233001_1) ∧ Aside0 (w'.heap[gb223]? = some (.cells #[.int .i64 0, (.slice none 0 0)] 28 (0, 0))) ∧ Aside0 (w'.heap[gb232]? = some (.cells #[.int .i64 t227, u233001] 28 (0, 0))) ∧ Aside0 (IsS71 w w' g226 t224 t234) ∧ Aside0 (Below w.heap.size w w'))
   case atStart => exact ⟨(t228), (.slice Ao13 t228.length co13), H', ⟨Nat.le_refl _⟩, ⟨by (with_reducible repeat (first | apply Yl | apply Yk | apply Kd.R_drew)); exact HO230.out⟩, ⟨by (with_reducible repeat (first | refine Ya ?_ _ | refine Yb ?_ | refine Yc ?_ _)); exact BK223.out⟩, ⟨by (with_reducible repeat (first | refine Ya ?_ _ | refine Yb ?_ | refine Yc ?_ _)); exact BK232.out⟩, ⟨by repeat (first | (with_reducible first | exact HI226.out | apply IsS71.alloc | apply IsS71.drewN | apply IsS71.drew | apply IsS71.set_1 | refine IsS71.far ?_ NB226_223.out _ | refine IsS71.far ?_ NB226_232.out _) | exact HI226.out)⟩, ⟨by repeat (first | (with_reducible first | exact HB.out | apply Yf | apply Yg | apply Yh | refine Yi ?_ (IsS71.ge HI226.out) | refine Yi ?_ GE223.out | refine Yi ?_ GE232.out) | exact HB.out)⟩⟩
   case round =>
    clear H'
    try clear c1
    try clear p2
    try clear c3
    try clear c10
    try clear c11
    try clear c15
    try clear c15b0
    try clear c15b1
    try clear hcz12_0
    try clear hcz12_1
    try clear hfz12_0
    try clear hfz12_1
    (try (rename (t233 == 0) = true => hz_; clear hz_))
    (try (rename (t233 == 0) = true => hz_; clear hz_))
    obtain ⟨x233001_1, u233001, HA, HK1, HO_233001, BK223, BK232, HI226, HB⟩ := hrel
    cases gk with
    | zero => exact absurd HA.out (by unfold spec_DrawAddAnd.l0; simp)
    | succ k1 =>
     have H := HA.out
     clear HA
     unfold spec_DrawAddAnd.l0 at H
     by_cases c16 : (x233001_1.length : Int) < 600
     ·rw [if_pos c16] at H
      have c16b0 : decide ((x233001_1.length : Int) < 600) = true := decide_eq_true c16
      have c16b1 : decide (x233001_1.length < 600) = true := decide_eq_true (by omega)
      clear c16
      by_cases c17 : x233001_1.length < 8796093022208
      ·rw [if_pos c17] at H
       have LMc17 := Yj c17
       clear c17
       obtain ⟨y235, hy235⟩ : ∃ y_ : List (S57), y_ = (x233001_1 ++ [(⟨1, 0⟩ : S57)]) := ⟨_, rfl⟩
       replace H : (spec_DrawAddAnd.l0 k1 t224 t234 t227 y235) = some (r1, r2, r3, r4) := by first | (rw [hy235]; with_reducible exact H) | (have H2_ := (Option.bind_some _ _).symm.trans H; rw [hy235]; with_reducible exact H2_) | (have H2_ := (Option.bind_some _ _).symm.trans H; with_reducible exact H2_) | with_reducible exact H | (rw [hy235]; exact H) | exact H
       have Ny235 := Yj hy235
       clear hy235
       have H' := Yj H
       clear H
       have hnb18 := NB232_223.out
       have hnc18 := NB223_232.out
       have hnb19 := NB232_226.out
       have hnc19 := NB226_232.out
       have hcz20_0 : wr.cell? ⟨gb232, 0, none⟩ = some (.int .i64 t227) := (Yd BK232.out 0).trans rfl
       have hcz20_1 : wr.cell? ⟨gb232, 1, none⟩ = some (u233001) := (Yd BK232.out 1).trans rfl
       have hfz20_0 := Ye BK232.out 0
       have hfz20_1 := Ye BK232.out 1
       obtain ⟨Ao21, co21, eo21⟩ := Kd.R_slice HO_233001.out
       subst eo21
       go_wp2_with (first | ((with_reducible refine gate_builtin (b := .append) (xs := #[.tmp 19, .tmp 21]) rfl ?_); at_builtin; refine Kd.R_append k57 (w0 := w) w.heap.size rfl (.tmp 19) (.tmp 21) 26 57 (.agg #[(.int .i64 0), (.int .i64 0)]) 16 rfl Try.underlying26 info57 rfl (by decide) (by omega) (.slice Ao21 x233001_1.length co21) x233001_1 (⟨1, 0⟩ : S57) [.int .i64 1, .int .i64 0] (fun _ => True) (fun _ => False) rfl rfl ?aP (fun _ hk => hk.elim) ?aF ?aO ?aB ?aS ?aL ?_; (case aP => exact k57_mkM _ _ _ (⟨1, 0⟩ : S57)); (case aB => exact (by repeat (first | (with_reducible first | exact HB.out | apply Yf | apply Yg | apply Yh | refine Yi ?_ (IsS71.ge HI226.out) | refine Yi ?_ GE223.out | refine Yi ?_ GE232.out) | exact HB.out))); (case aF => exact (fun _ _ => trivial)); (case aO => exact (by (with_reducible repeat (first | apply Yl | apply Yk | apply Kd.R_drew)); exact HO_233001.out)); (case aS => exact (below_size (by repeat (first | (with_reducible first | exact HB.out | apply Yf | apply Yg | apply Yh | refine Yi ?_ (IsS71.ge HI226.out) | refine Yi ?_ GE223.out | refine Yi ?_ GE232.out) | exact HB.out)))); (case aL => have := LMc17.out; omega); intro v236 w22 ho hb hg hat; rw [← Ny235.out] at ho; have n0_ := Yj (blk_grown (g := gb223) (o := .cells #[.int .i64 0, .slice none 0 0] 28 (0, 0)) (by (with_reducible repeat (first | refine Ya ?_ _ | refine Yb ?_ | refine Yc ?_ _)); exact BK223.out) hg (Kd.R_ne HO_233001.out BK223.out (by decide))); have n1_ := Yj (blk_grown (g := gb232) (o := .cells #[.int .i64 t227, .slice Ao21 x233001_1.length co21] 28 (0, 0)) (by (with_reducible repeat (first | refine Ya ?_ _ | refine Yb ?_ | refine Yc ?_ _)); exact BK232.out) hg (Kd.R_ne HO_233001.out BK232.out (by decide))); have n2_ := Yj (IsS71.grown (by repeat (first | (with_reducible first | exact HI226.out | apply IsS71.alloc | apply IsS71.drewN | apply IsS71.drew | apply IsS71.set_1 | refine IsS71.far ?_ NB226_223.out _ | refine IsS71.far ?_ NB226_232.out _) | exact HI226.out)) hg (IsS71.own_ne HI226.out HO_233001.out (by decide))); have n3_ := Yj (hb); have n4_ := Yj (ho); clear BK223; clear BK232; clear HI226; clear HB; clear HO_233001; have BK223 := n0_; have BK232 := n1_; have HI226 := n2_; have HB := n3_; have HO237 := n4_; clear n0_ n1_ n2_ n3_ n4_; clear ho hb hg hat; obtain ⟨Ao23, co23, eo23⟩ := Kd.R_slice HO237.out; subst eo23; have hcz24_0 : w22.cell? ⟨gb232, 0, none⟩ = some (.int .i64 t227) := (Yd BK232.out 0).trans rfl; have hcz24_1 : w22.cell? ⟨gb232, 1, none⟩ = some (.slice Ao21 x233001_1.length co21) := (Yd BK232.out 1).trans rfl; have hfz24_0 := Ye BK232.out 0; have hfz24_1 := Ye BK232.out 1))
       go_roundg k1
       case measure => have := HK1.out; omega
       case rel => exact ⟨(y235), (.slice Ao23 y235.length co23), H', ⟨by have := HK1.out; omega⟩, ⟨by (with_reducible repeat (first | apply Yl | apply Yk | apply Kd.R_drew)); exact Kd.R_mono (Kd.R_far (p := ⟨gb232, 1, none⟩) (Kd.R_types HO237.out BK232.out (by decide)) (fun _ hk => hk.2) (.slice Ao23 y235.length co23)) (fun _ hk => trivial)⟩, ⟨by (with_reducible repeat (first | refine Ya ?_ _ | refine Yb ?_ | refine Yc ?_ _)); refine blk_far ?_ NB223_232.out _; (with_reducible repeat (first | refine Ya ?_ _ | refine Yb ?_ | refine Yc ?_ _)); exact BK223.out⟩, ⟨by (with_reducible repeat (first | refine Ya ?_ _ | refine Yb ?_ | refine Yc ?_ _)); refine blk_put (cs := #[.int .i64 t227, .slice Ao21 x233001_1.length co21]) ?_ 1 _ rfl; (with_reducible repeat (first | refine Ya ?_ _ | refine Yb ?_ | refine Yc ?_ _)); exact BK232.out⟩, ⟨by repeat (first | (with_reducible first | exact HI226.out | apply IsS71.alloc | apply IsS71.drewN | apply IsS71.drew | apply IsS71.set_1 | refine IsS71.far ?_ NB226_223.out _ | refine IsS71.far ?_ NB226_232.out _) | exact HI226.out)⟩, ⟨by repeat (first | (with_reducible first | exact HB.out | apply Yf | apply Yg | apply Yh | refine Yi ?_ (IsS71.ge HI226.out) | refine Yi ?_ GE223.out | refine Yi ?_ GE232.out) | exact HB.out)⟩⟩
      ·rw [if_neg c17] at H
       exact absurd H (by simp)
     ·rw [if_neg c16] at H
      have c16b0 : decide ((x233001_1.length : Int) < 600) = false := decide_eq_false c16
      have c16b1 : decide (x233001_1.length < 600) = false := decide_eq_false (by omega)
      clear c16
      replace H := Option.bind_eq_some_iff.mp H
      obtain ⟨⟨t238, t239⟩, A250, H⟩ := H
      replace H : (if t238 = 0 then (if 599 ≤ (x233001_1.length : Int) then (spec_DrawAddAnd.j1 k1 t224 t239 t227 (x233001_1.take (599 : Int).toNat)) else (none)) else (spec_DrawAddAnd.j1 k1 t224 t239 t227 x233001_1)) = some (r1, r2, r3, r4) := H
      have A25 := Yj A250
      clear A250
      by_cases c26 : t238 = 0
      ·rw [if_pos c26] at H
       have c26b0 : (t238 == 0) = true := beq_iff_eq.mpr c26
       have c26b1 : (t238 != 0) = false := bne_eq_false_iff_eq.mpr c26
       clear c26
       by_cases c27 : 599 ≤ (x233001_1.length : Int)
       ·rw [if_pos c27] at H
        have c27b0 := eq_true c27
        have c27b1 : decide (599 ≤ (x233001_1.length : Int)) = true := decide_eq_true c27
        clear c27
        obtain ⟨y240, hy240⟩ : ∃ y_ : List (S57), y_ = (x233001_1.take (599 : Int).toNat) := ⟨_, rfl⟩
        replace H : (spec_DrawAddAnd.j1 k1 t224 t239 t227 y240) = some (r1, r2, r3, r4) := by first | (rw [hy240]; with_reducible exact H) | (have H2_ := (Option.bind_some _ _).symm.trans H; rw [hy240]; with_reducible exact H2_) | (have H2_ := (Option.bind_some _ _).symm.trans H; with_reducible exact H2_) | with_reducible exact H | (rw [hy240]; exact H) | exact H
        have Ny240 := Yj hy240
        clear hy240
        have H' := Yj H
        clear H
        have hnb28 := NB232_223.out
        have hnc28 := NB223_232.out
        have hnb29 := NB232_226.out
        have hnc29 := NB226_232.out
        have hcz30_0 : wr.cell? ⟨gb232, 0, none⟩ = some (.int .i64 t227) := (Yd BK232.out 0).trans rfl
        have hcz30_1 : wr.cell? ⟨gb232, 1, none⟩ = some (u233001) := (Yd BK232.out 1).trans rfl
        have hfz30_0 := Ye BK232.out 0
        have hfz30_1 := Ye BK232.out 1
        obtain ⟨Ao31, co31, eo31⟩ := Kd.R_slice HO_233001.out
        subst eo31
        go_wp2_with (first | ((with_reducible refine gate_callee (f := 35) rfl ?_); refine goesL_ (some 25) rfl rfl Try.func35 (by kernel_rfl) rfl #[.pointer (some ⟨g226, 0, none⟩), .int .i64 3] rfl (by (try simp only [List.map_toArray, List.map_cons, List.map_nil]); first | done | rfl | (simp only [List.length_drop, List.length_take]; rfl)) ?_; (with_reducible refine (spec_l40Rd_pick.calls k1 g226 t224 t234 3 t238 t239 w _ ?side1 ?side2 A25.out).mono ?_); (case side1 => repeat (first | (with_reducible first | exact HI226.out | apply IsS71.alloc | apply IsS71.drewN | apply IsS71.drew | apply IsS71.set_1 | refine IsS71.far ?_ NB226_223.out _ | refine IsS71.far ?_ NB226_232.out _) | exact HI226.out)); (case side2 => repeat (first | (with_reducible first | exact HB.out | apply Yf | apply Yg | apply Yh | refine Yi ?_ (IsS71.ge HI226.out) | refine Yi ?_ GE223.out | refine Yi ?_ GE232.out) | exact HB.out)); rintro e w32 ⟨rfl, hi, hb, hk⟩; refine ⟨_, rfl, ?_⟩; have n0_ := Yj (Kd.R_mono (Kd.R_keep (IsS71.apart (show IsS71 w _ g226 t224 t234 from by repeat (first | (with_reducible first | exact HI226.out | apply IsS71.alloc | apply IsS71.drewN | apply IsS71.drew | apply IsS71.set_1 | refine IsS71.far ?_ NB226_223.out _ | refine IsS71.far ?_ NB226_232.out _) | exact HI226.out)) (by (with_reducible repeat (first | apply Yl | apply Yk | apply Kd.R_drew)); exact HO_233001.out) (by decide)) hk (fun _ h => h.2)) (fun _ h => h.1)); have n1_ := Yj (KeepBut.blk hk (g' := gb223) (o := .cells #[.int .i64 0, .slice none 0 0] 28 (0, 0)) (by (with_reducible repeat (first | refine Ya ?_ _ | refine Yb ?_ | refine Yc ?_ _)); exact BK223.out) NB223_226.out (by simp)); have n2_ := Yj (KeepBut.blk hk (g' := gb232) (o := .cells #[.int .i64 t227, .slice Ao31 x233001_1.length co31] 28 (0, 0)) (by (with_reducible repeat (first | refine Ya ?_ _ | refine Yb ?_ | refine Yc ?_ _)); exact BK232.out) NB232_226.out (by simp)); have n3_ := Yj (hb); have n4_ := Yj (hi); clear HO_233001; clear BK223; clear BK232; clear HB; clear HI226; have HO_233001 := n0_; have BK223 := n1_; have BK232 := n2_; have HB := n3_; have HI226 := n4_; clear n0_ n1_ n2_ n3_ n4_; (try clear hb); (try clear hb2); (try clear hk); (try clear hi); have hcz33_0 : w32.cell? ⟨gb232, 0, none⟩ = some (.int .i64 t227) := (Yd BK232.out 0).trans rfl; have hcz33_1 : w32.cell? ⟨gb232, 1, none⟩ = some (.slice Ao31 x233001_1.length co31) := (Yd BK232.out 1).trans rfl; have hfz33_0 := Ye BK232.out 0; have hfz33_1 := Ye BK232.out 1; have q34 : (599 : Int) ≤ ((x233001_1.length : Int) : Int) := of_decide_eq_true (by first | (with_reducible assumption) | assumption); obtain ⟨i034, hi034, _, hsz34, _⟩ := info_parts info57; have hcut34 := cut_to (P := Try.prog) 26 57 .i64 Try.underlying26 hi034 Ao31 x233001_1.length co31 599 (by omega) q34 (Kd.R_reads' HO_233001.out).2.1; have hr34 := Kd.R_take (m := (599 : Int).toNat) HO_233001.out (by omega); have hy34 : y240.length = (599 : Int).toNat := (by rw [Ny240.out, List.length_take]; omega); rw [← Ny240.out] at hr34; rw [← hy34] at hr34 hcut34; clear hy34 hi034 hsz34 HO_233001; have HO242 := Yj hr34; clear hr34; replace q34 := eq_true q34))
        go_meet
        case rel => exact ⟨_, (t239), (y240), (.slice Ao31 y240.length co31), H', ⟨by have := HK1.out; first | omega | exact Nat.le_refl _⟩, ⟨by (with_reducible repeat (first | apply Yl | apply Yk | apply Kd.R_drew)); exact Kd.R_mono (Kd.R_far (p := ⟨gb232, 1, none⟩) (Kd.R_types HO242.out BK232.out (by decide)) (fun _ hk => hk.2) (.slice Ao31 y240.length co31)) (fun _ hk => trivial)⟩, ⟨by (with_reducible repeat (first | refine Ya ?_ _ | refine Yb ?_ | refine Yc ?_ _)); refine blk_far ?_ NB223_232.out _; (with_reducible repeat (first | refine Ya ?_ _ | refine Yb ?_ | refine Yc ?_ _)); exact BK223.out⟩, ⟨by (with_reducible repeat (first | refine Ya ?_ _ | refine Yb ?_ | refine Yc ?_ _)); refine blk_put (cs := #[.int .i64 t227, .slice Ao31 x233001_1.length co31]) ?_ 1 _ rfl; (with_reducible repeat (first | refine Ya ?_ _ | refine Yb ?_ | refine Yc ?_ _)); exact BK232.out⟩, ⟨by repeat (first | (with_reducible first | exact HI226.out | apply IsS71.alloc | apply IsS71.drewN | apply IsS71.drew | apply IsS71.set_1 | refine IsS71.far ?_ NB226_223.out _ | refine IsS71.far ?_ NB226_232.out _) | exact HI226.out)⟩, ⟨by repeat (first | (with_reducible first | exact HB.out | apply Yf | apply Yg | apply Yh | refine Yi ?_ (IsS71.ge HI226.out) | refine Yi ?_ GE223.out | refine Yi ?_ GE232.out) | exact HB.out)⟩⟩
       ·rw [if_neg c27] at H
        exact absurd H (by simp)
      ·rw [if_neg c26] at H
       have c26b0 : (t238 == 0) = false := beq_eq_false_iff_ne.mpr c26
       have c26b1 : (t238 != 0) = true := bne_iff_ne.mpr c26
       have H' := Yj H
       clear H
       have hnb35 := NB232_223.out
       have hnc35 := NB223_232.out
       have hnb36 := NB232_226.out
       have hnc36 := NB226_232.out
       have hcz37_0 : wr.cell? ⟨gb232, 0, none⟩ = some (.int .i64 t227) := (Yd BK232.out 0).trans rfl
       have hcz37_1 : wr.cell? ⟨gb232, 1, none⟩ = some (u233001) := (Yd BK232.out 1).trans rfl
       have hfz37_0 := Ye BK232.out 0
       have hfz37_1 := Ye BK232.out 1
       obtain ⟨Ao38, co38, eo38⟩ := Kd.R_slice HO_233001.out
       subst eo38
       go_wp2_with (first | ((with_reducible refine gate_callee (f := 35) rfl ?_); refine goesL_ (some 25) rfl rfl Try.func35 (by kernel_rfl) rfl #[.pointer (some ⟨g226, 0, none⟩), .int .i64 3] rfl (by (try simp only [List.map_toArray, List.map_cons, List.map_nil]); first | done | rfl | (simp only [List.length_drop, List.length_take]; rfl)) ?_; (with_reducible refine (spec_l40Rd_pick.calls k1 g226 t224 t234 3 t238 t239 w _ ?side1 ?side2 A25.out).mono ?_); (case side1 => repeat (first | (with_reducible first | exact HI226.out | apply IsS71.alloc | apply IsS71.drewN | apply IsS71.drew | apply IsS71.set_1 | refine IsS71.far ?_ NB226_223.out _ | refine IsS71.far ?_ NB226_232.out _) | exact HI226.out)); (case side2 => repeat (first | (with_reducible first | exact HB.out | apply Yf | apply Yg | apply Yh | refine Yi ?_ (IsS71.ge HI226.out) | refine Yi ?_ GE223.out | refine Yi ?_ GE232.out) | exact HB.out)); rintro e w39 ⟨rfl, hi, hb, hk⟩; refine ⟨_, rfl, ?_⟩; have n0_ := Yj (Kd.R_mono (Kd.R_keep (IsS71.apart (show IsS71 w _ g226 t224 t234 from by repeat (first | (with_reducible first | exact HI226.out | apply IsS71.alloc | apply IsS71.drewN | apply IsS71.drew | apply IsS71.set_1 | refine IsS71.far ?_ NB226_223.out _ | refine IsS71.far ?_ NB226_232.out _) | exact HI226.out)) (by (with_reducible repeat (first | apply Yl | apply Yk | apply Kd.R_drew)); exact HO_233001.out) (by decide)) hk (fun _ h => h.2)) (fun _ h => h.1)); have n1_ := Yj (KeepBut.blk hk (g' := gb223) (o := .cells #[.int .i64 0, .slice none 0 0] 28 (0, 0)) (by (with_reducible repeat (first | refine Ya ?_ _ | refine Yb ?_ | refine Yc ?_ _)); exact BK223.out) NB223_226.out (by simp)); have n2_ := Yj (KeepBut.blk hk (g' := gb232) (o := .cells #[.int .i64 t227, .slice Ao38 x233001_1.length co38] 28 (0, 0)) (by (with_reducible repeat (first | refine Ya ?_ _ | refine Yb ?_ | refine Yc ?_ _)); exact BK232.out) NB232_226.out (by simp)); have n3_ := Yj (hb); have n4_ := Yj (hi); clear HO_233001; clear BK223; clear BK232; clear HB; clear HI226; have HO_233001 := n0_; have BK223 := n1_; have BK232 := n2_; have HB := n3_; have HI226 := n4_; clear n0_ n1_ n2_ n3_ n4_; (try clear hb); (try clear hb2); (try clear hk); (try clear hi)))
       go_meet
       case rel => exact ⟨_, (t239), (x233001_1), (.slice Ao38 x233001_1.length co38), H', ⟨by have := HK1.out; first | omega | exact Nat.le_refl _⟩, ⟨by (with_reducible repeat (first | apply Yl | apply Yk | apply Kd.R_drew)); exact HO_233001.out⟩, ⟨by (with_reducible repeat (first | refine Ya ?_ _ | refine Yb ?_ | refine Yc ?_ _)); exact BK223.out⟩, ⟨by (with_reducible repeat (first | refine Ya ?_ _ | refine Yb ?_ | refine Yc ?_ _)); exact BK232.out⟩, ⟨by repeat (first | (with_reducible first | exact HI226.out | apply IsS71.alloc | apply IsS71.drewN | apply IsS71.drew | apply IsS71.set_1 | refine IsS71.far ?_ NB226_223.out _ | refine IsS71.far ?_ NB226_232.out _) | exact HI226.out)⟩, ⟨by repeat (first | (with_reducible first | exact HB.out | apply Yf | apply Yg | apply Yh | refine Yi ?_ (IsS71.ge HI226.out) | refine Yi ?_ GE223.out | refine Yi ?_ GE232.out) | exact HB.out)⟩⟩
  ·rw [if_neg c15] at H
   have c15b0 : (t233 == 0) = false := beq_eq_false_iff_ne.mpr c15
   have c15b1 : (t233 != 0) = true := bne_iff_ne.mpr c15
   skip
   have H' := Yj H
   clear H
   go_wp2
   go_meet
   case rel => exact ⟨_, (t234), (t228), (.slice Ao13 t228.length co13), H', ⟨by first | omega | exact Nat.le_refl _⟩, ⟨by (with_reducible repeat (first | apply Yl | apply Yk | apply Kd.R_drew)); exact HO230.out⟩, ⟨by (with_reducible repeat (first | refine Ya ?_ _ | refine Yb ?_ | refine Yc ?_ _)); exact BK223.out⟩, ⟨by (with_reducible repeat (first | refine Ya ?_ _ | refine Yb ?_ | refine Yc ?_ _)); exact BK232.out⟩, ⟨by repeat (first | (with_reducible first | exact HI226.out | apply IsS71.alloc | apply IsS71.drewN | apply IsS71.drew | apply IsS71.set_1 | refine IsS71.far ?_ NB226_223.out _ | refine IsS71.far ?_ NB226_232.out _) | exact HI226.out)⟩, ⟨by repeat (first | (with_reducible first | exact HB.out | apply Yf | apply Yg | apply Yh | refine Yi ?_ (IsS71.ge HI226.out) | refine Yi ?_ GE223.out | refine Yi ?_ GE232.out) | exact HB.out)⟩⟩
 case rest =>
  clear HC5
  try clear c1
  try clear c2
  try clear p2
  try clear c3
  try clear q3
  try clear c10
  try clear c11
  try clear c15
  try clear c15b0
  try clear c15b1
  try clear c16
  try clear c16b0
  try clear c16b1
  try clear c17
  try clear c18
  try clear c19
  try clear c26
  try clear c26b0
  try clear c26b1
  try clear c27
  try clear c27b0
  try clear c27b1
  try clear c28
  try clear c29
  try clear c33
  try clear c34
  try clear q34
  try clear c35
  try clear c36
  try clear hcz12_0
  try clear hcz12_1
  try clear hcz20_0
  try clear hcz20_1
  try clear hcz24_0
  try clear hcz24_1
  try clear hcz30_0
  try clear hcz30_1
  try clear hcz33_0
  try clear hcz33_1
  try clear hcz37_0
  try clear hcz37_1
  try clear hfz12_0
  try clear hfz12_1
  try clear hfz20_0
  try clear hfz20_1
  try clear hfz24_0
  try clear hfz24_1
  try clear hfz30_0
  try clear hfz30_1
  try clear hfz33_0
  try clear hfz33_1
  try clear hfz37_0
  try clear hfz37_1
  try clear p2
  try clear q34
  obtain ⟨kq, x227001_4, x233001_4, u233001, HA, HJ4, HO_233001, BK223, BK232, HI226, HB⟩ := hcut
  cases kq with
  | zero => exact absurd HA.out (by simp [spec_DrawAddAnd.j1])
  | succ kj4 =>
   have H := HA.out
   clear HA
   simp only [spec_DrawAddAnd.j1] at H
   have HC40 := Yj H
   clear H
   go_upto_region 8 with (fail)
   go_cut [39] (fun v39 wc => ∃ (kq : Nat) (x39_39 : Bool) (x227001_39 : Int), v39 = .bool x39_39 ∧ Aside0 (spec_DrawAddAnd.j2 kq x39_39 t224 x227001_39 t227 x233001_4 = some (r1, r2, r3, r4)) ∧ Aside0 (kq ≤ kj4) ∧ Aside0 (Kd.R k57 57 wc w.heap.size (fun _ => True) u233001 x233001_4) ∧ Aside0 (wc.heap[gb223]? = some (.cells #[.int .i64 0, (.slice none 0 0)] 28 (0, 0))) ∧ Aside0 (wc.heap[gb232]? = some (.cells #[.int .i64 t227, u233001] 28 (0, 0))) ∧ Aside0 (IsS71 w wc g226 t224 x227001_39) ∧ Aside0 (Below w.heap.size w wc))
   case first =>
    have H := HC40.out
    clear HC40
    by_cases c41 : (x233001_4.length : Int) > 0
    ·rw [if_pos c41] at H
     have c41b0 : decide (0 < (x233001_4.length : Int)) = true := decide_eq_true c41
     have c41b1 : decide (0 < x233001_4.length) = true := decide_eq_true (by omega)
     clear c41
     (first | rw [c41b0] | (simp only [i64_w, i32_w]; rw [c41b0]) | rw [c41b1] | simp only [c41b1] | skip)
     replace H := Option.bind_eq_some_iff.mp H
     obtain ⟨⟨t243, t244⟩, A420, H⟩ := H
     replace H : (spec_DrawAddAnd.j2 kj4 (t243 == 0) t224 t244 t227 x233001_4) = some (r1, r2, r3, r4) := H
     have A42 := Yj A420
     clear A420
     have H' := Yj H
     clear H
     have hnb43 := NB232_223.out
     have hnc43 := NB223_232.out
     have hnb44 := NB232_226.out
     have hnc44 := NB226_232.out
     have hcz45_0 : wc.cell? ⟨gb232, 0, none⟩ = some (.int .i64 t227) := (Yd BK232.out 0).trans rfl
     have hcz45_1 : wc.cell? ⟨gb232, 1, none⟩ = some (u233001) := (Yd BK232.out 1).trans rfl
     have hfz45_0 := Ye BK232.out 0
     have hfz45_1 := Ye BK232.out 1
     obtain ⟨Ao46, co46, eo46⟩ := Kd.R_slice HO_233001.out
     subst eo46
     go_wp2_with (first | (go_at_call 35; (with_reducible refine (spec_l40Rd_pick.calls kj4 g226 t224 x227001_4 5 t243 t244 w _ ?side1 ?side2 A42.out).mono ?_); (case side1 => repeat (first | (with_reducible first | exact HI226.out | apply IsS71.alloc | apply IsS71.drewN | apply IsS71.drew | apply IsS71.set_1 | refine IsS71.far ?_ NB226_223.out _ | refine IsS71.far ?_ NB226_232.out _) | exact HI226.out)); (case side2 => repeat (first | (with_reducible first | exact HB.out | apply Yf | apply Yg | apply Yh | refine Yi ?_ (IsS71.ge HI226.out) | refine Yi ?_ GE223.out | refine Yi ?_ GE232.out) | exact HB.out)); rintro e w47 ⟨rfl, hi, hb, hk⟩; have n0_ := Yj (Kd.R_mono (Kd.R_keep (IsS71.apart (show IsS71 w _ g226 t224 x227001_4 from by repeat (first | (with_reducible first | exact HI226.out | apply IsS71.alloc | apply IsS71.drewN | apply IsS71.drew | apply IsS71.set_1 | refine IsS71.far ?_ NB226_223.out _ | refine IsS71.far ?_ NB226_232.out _) | exact HI226.out)) (by (with_reducible repeat (first | apply Yl | apply Yk | apply Kd.R_drew)); exact HO_233001.out) (by decide)) hk (fun _ h => h.2)) (fun _ h => h.1)); have n1_ := Yj (KeepBut.blk hk (g' := gb223) (o := .cells #[.int .i64 0, .slice none 0 0] 28 (0, 0)) (by (with_reducible repeat (first | refine Ya ?_ _ | refine Yb ?_ | refine Yc ?_ _)); exact BK223.out) NB223_226.out (by simp)); have n2_ := Yj (KeepBut.blk hk (g' := gb232) (o := .cells #[.int .i64 t227, .slice Ao46 x233001_4.length co46] 28 (0, 0)) (by (with_reducible repeat (first | refine Ya ?_ _ | refine Yb ?_ | refine Yc ?_ _)); exact BK232.out) NB232_226.out (by simp)); have n3_ := Yj (hb); have n4_ := Yj (hi); clear HO_233001; clear BK223; clear BK232; clear HB; clear HI226; have HO_233001 := n0_; have BK223 := n1_; have BK232 := n2_; have HB := n3_; have HI226 := n4_; clear n0_ n1_ n2_ n3_ n4_; (try clear hb); (try clear hb2); (try clear hk); (try clear hi)))
     go_meet
     case rel => exact ⟨_, ((t243 == 0)), (t244), (by first | rfl | (simp; done) | (simp [*]; done)), H', ⟨by have := HJ4.out; first | omega | exact Nat.le_refl _⟩, ⟨by (with_reducible repeat (first | apply Yl | apply Yk | apply Kd.R_drew)); exact HO_233001.out⟩, ⟨by (with_reducible repeat (first | refine Ya ?_ _ | refine Yb ?_ | refine Yc ?_ _)); exact BK223.out⟩, ⟨by (with_reducible repeat (first | refine Ya ?_ _ | refine Yb ?_ | refine Yc ?_ _)); exact BK232.out⟩, ⟨by repeat (first | (with_reducible first | exact HI226.out | apply IsS71.alloc | apply IsS71.drewN | apply IsS71.drew | apply IsS71.set_1 | refine IsS71.far ?_ NB226_223.out _ | refine IsS71.far ?_ NB226_232.out _) | exact HI226.out)⟩, ⟨by repeat (first | (with_reducible first | exact HB.out | apply Yf | apply Yg | apply Yh | refine Yi ?_ (IsS71.ge HI226.out) | refine Yi ?_ GE223.out | refine Yi ?_ GE232.out) | exact HB.out)⟩⟩
    ·rw [if_neg c41] at H
     have c41b0 : decide (0 < (x233001_4.length : Int)) = false := decide_eq_false c41
     have c41b1 : decide (0 < x233001_4.length) = false := decide_eq_false (by omega)
     clear c41
     (first | rw [c41b0] | (simp only [i64_w, i32_w]; rw [c41b0]) | rw [c41b1] | simp only [c41b1] | skip)
     have H' := Yj H
     clear H
     have hnb48 := NB232_223.out
     have hnc48 := NB223_232.out
     have hnb49 := NB232_226.out
     have hnc49 := NB226_232.out
     have hcz50_0 : wc.cell? ⟨gb232, 0, none⟩ = some (.int .i64 t227) := (Yd BK232.out 0).trans rfl
     have hcz50_1 : wc.cell? ⟨gb232, 1, none⟩ = some (u233001) := (Yd BK232.out 1).trans rfl
     have hfz50_0 := Ye BK232.out 0
     have hfz50_1 := Ye BK232.out 1
     obtain ⟨Ao51, co51, eo51⟩ := Kd.R_slice HO_233001.out
     subst eo51
     go_wp2
     go_meet
     case rel => exact ⟨_, (false), (x227001_4), (by first | rfl | (simp; done) | (simp [*]; done)), H', ⟨by have := HJ4.out; first | omega | exact Nat.le_refl _⟩, ⟨by (with_reducible repeat (first | apply Yl | apply Yk | apply Kd.R_drew)); exact HO_233001.out⟩, ⟨by (with_reducible repeat (first | refine Ya ?_ _ | refine Yb ?_ | refine Yc ?_ _)); exact BK223.out⟩, ⟨by (with_reducible repeat (first | refine Ya ?_ _ | refine Yb ?_ | refine Yc ?_ _)); exact BK232.out⟩, ⟨by repeat (first | (with_reducible first | exact HI226.out | apply IsS71.alloc | apply IsS71.drewN | apply IsS71.drew | apply IsS71.set_1 | refine IsS71.far ?_ NB226_223.out _ | refine IsS71.far ?_ NB226_232.out _) | exact HI226.out)⟩, ⟨by repeat (first | (with_reducible first | exact HB.out | apply Yf | apply Yg | apply Yh | refine Yi ?_ (IsS71.ge HI226.out) | refine Yi ?_ GE223.out | refine Yi ?_ GE232.out) | exact HB.out)⟩⟩
   case rest =>
    clear HC40
    try clear c1
    try clear c2
    try clear p2
    try clear c3
    try clear q3
    try clear c4
    try clear c10
    try clear c11
    try clear c15
    try clear c15b0
    try clear c15b1
    try clear c16
    try clear c16b0
    try clear c16b1
    try clear c17
    try clear c18
    try clear c19
    try clear c26
    try clear c26b0
    try clear c26b1
    try clear c27
    try clear c27b0
    try clear c27b1
    try clear c28
    try clear c29
    try clear c33
    try clear c34
    try clear q34
    try clear c35
    try clear c36
    try clear c41
    try clear c41b0
    try clear c41b1
    try clear c43
    try clear c44
    try clear c48
    try clear c49
    try clear hcz12_0
    try clear hcz12_1
    try clear hcz20_0
    try clear hcz20_1
    try clear hcz24_0
    try clear hcz24_1
    try clear hcz30_0
    try clear hcz30_1
    try clear hcz33_0
    try clear hcz33_1
    try clear hcz37_0
    try clear hcz37_1
    try clear hcz45_0
    try clear hcz45_1
    try clear hcz50_0
    try clear hcz50_1
    try clear hfz12_0
    try clear hfz12_1
    try clear hfz20_0
    try clear hfz20_1
    try clear hfz24_0
    try clear hfz24_1
    try clear hfz30_0
    try clear hfz30_1
    try clear hfz33_0
    try clear hfz33_1
    try clear hfz37_0
    try clear hfz37_1
    try clear hfz45_0
    try clear hfz45_1
    try clear hfz50_0
    try clear hfz50_1
    try clear p2
    try clear q3
    try clear q34
    obtain ⟨kq, x39_39, x227001_39, rfl, HA, HJ39, HO_233001, BK223, BK232, HI226, HB⟩ := hcut
    cases kq with
    | zero => exact absurd HA.out (by simp [spec_DrawAddAnd.j2])
    | succ kj39 =>
     have H := HA.out
     clear HA
     simp only [spec_DrawAddAnd.j2] at H
     by_cases c52 : x39_39 = true
     ·subst c52
      have H1 : (if 0 < (x233001_4.length : Int) then (some (t227, x233001_4, (rd_T57 x233001_4 0).f1, (rd_T57 x233001_4 0).f0)) else (none)) = some (r1, r2, r3, r4) := by rw [if_pos rfl] at H; exact H
      clear H
      have H := H1
      clear H1
      by_cases c53 : 0 < (x233001_4.length : Int)
      ·rw [if_pos c53] at H
       have c53b0 : decide (0 < (x233001_4.length : Int)) = true := decide_eq_true c53
       have c53b1 : decide (0 < x233001_4.length) = true := decide_eq_true (by omega)
       clear c53
       simp only [Option.some.injEq, Prod.mk.injEq] at H
       obtain ⟨rfl, rfl, rfl, rfl⟩ := H
       try go_wp2
       have n0_ := Yj (Kd.R_drew HO_233001.out)
       have n1_ := Yj (Yb BK223.out)
       have n2_ := Yj (Yb BK232.out)
       have n3_ := Yj (IsS71.drew HI226.out)
       have n4_ := Yj (Yh HB.out)
       clear HO_233001
       clear BK223
       clear BK232
       clear HI226
       clear HB
       have HO_233001 := n0_
       have BK223 := n1_
       have BK232 := n2_
       have HI226 := n3_
       have HB := n4_
       clear n0_ n1_ n2_ n3_ n4_
       obtain ⟨Ao55, co55, eo55⟩ := Kd.R_slice HO_233001.out
       (first | subst eo55 | (injection eo55 with f1_ f2_ f3_; have f4_ := f1_.symm; have f5_ := f3_.symm; clear f1_ f2_ f3_; subst f4_; subst f5_))
       have p245 : 0 ≤ (0 : Int) := (by omega)
       have q245 : 0 < (x233001_4.length : Int) := of_decide_eq_true (by first | (with_reducible assumption) | assumption)
       obtain ⟨ad245, e245, hx245_0, hx245_1⟩ := at_T57 (Kd.R_reads' HO_233001.out).2.2 0 p245 q245
       cases e245
       have qi245 : (0 < x233001_4.length) = True := eq_true (by omega)
       (try rw [show ((0 : Int)).toNat = 0 from rfl] at hx245_0)
       (try rw [show 0 * 2 = 0 from rfl] at hx245_0)
       (try rw [Addr.add_zero'] at hx245_0)
       (try rw [show ((0 : Int)).toNat = 0 from rfl] at hx245_1)
       (try rw [show 0 * 2 = 0 from rfl] at hx245_1)
       (try rw [Addr.add_zero'] at hx245_1)
       replace p245 := eq_true p245
       replace q245 := eq_true q245
       have p246 : 0 ≤ (0 : Int) := (by omega)
       have q246 : 0 < (x233001_4.length : Int) := of_decide_eq_true (by first | (with_reducible assumption) | assumption)
       obtain ⟨ad246, e246, hx246_0, hx246_1⟩ := at_T57 (Kd.R_reads' HO_233001.out).2.2 0 p246 q246
       obtain rfl : ad245 = ad246 := (by injection e246)
       have qi246 : (0 < x233001_4.length) = True := eq_true (by omega)
       (try rw [show ((0 : Int)).toNat = 0 from rfl] at hx246_0)
       (try rw [show 0 * 2 = 0 from rfl] at hx246_0)
       (try rw [Addr.add_zero'] at hx246_0)
       (try rw [show ((0 : Int)).toNat = 0 from rfl] at hx246_1)
       (try rw [show 0 * 2 = 0 from rfl] at hx246_1)
       (try rw [Addr.add_zero'] at hx246_1)
       replace p246 := eq_true p246
       replace q246 := eq_true q246
       refine start_ (n := 14) (S := fun w' => w'.cell? ⟨gb232, 0, none⟩ = some (.int .i64 t227) ∧ w'.cell? ⟨gb232, 1, none⟩ = some (.slice (some ad245) x233001_4.length co55) ∧ w'.cell? ad245 = some (.int .i64 ((rd_T57 x233001_4 0).f0)) ∧ w'.cell? ⟨ad245.block, ad245.off + 1, none⟩ = some (.int .i64 ((rd_T57 x233001_4 0).f1)) ∧ w'.cell? ad245 = some (.int .i64 ((rd_T57 x233001_4 0).f0)) ∧ w'.cell? ⟨ad245.block, ad245.off + 1, none⟩ = some (.int .i64 ((rd_T57 x233001_4 0).f1))) (ds := []) #[false, false, false, false, false, false, false, false, false, false, false, false, false, false] (by kernel_rfl) rfl rfl ⟨(Yd BK232.out 0).trans rfl, (Yd BK232.out 1).trans rfl, hx245_0, hx245_1, hx246_0, hx246_1⟩ (fun hHeld => ?_); refine with_tabW spec_DrawAddAnd.tab9 spec_DrawAddAnd.bits9 (fun HT_ HW_ => ?_)
       generalize wc.drew = w54 at HO_233001 BK223 BK232 HI226 HB hx245_0 hx245_1 hx246_0 hx246_1 hHeld ⊢
       refine pure_ (i := 1) (N := some 41) (v := ?_) (a' := ?_) #[false, true, false, false, false, false, false, false, false, false, false, false, false, false] rfl rfl (any_of HT_.out (by kernel_rfl)) (fun _ _ _ h => h) (Or.inl ⟨by rfl, ?_⟩) ?_ ?_
       rotate_left
       ·intro w'
        go_simp
        with_reducible rfl
       rotate_left
       ·simp only [Act.put, List.setIfInBounds_toArray, List.set_cons_zero, List.set_cons_succ, i64_w, i32_w]
        rfl
       refine pure_ (i := 6) (N := some 46) (v := ?_) (a' := ?_) #[false, true, false, false, false, false, true, false, false, false, false, false, false, false] rfl rfl (any_of HT_.out (by kernel_rfl)) (fun _ _ _ h => h) (Or.inl ⟨by rfl, ?_⟩) ?_ ?_
       rotate_left
       ·intro w'
        go_simp
        with_reducible rfl
       rotate_left
       ·simp only [Act.put, List.setIfInBounds_toArray, List.set_cons_zero, List.set_cons_succ, i64_w, i32_w]
        rfl
       refine take_ (i := 0) (N := some 40) (v := ?_) (a' := ?_) #[true, true, false, false, false, false, true, false, false, false, false, false, false, false] rfl rfl (take_ofW HT_.out HW_.out (by kernel_rfl)) (fun _ _ _ h => h) (Or.inl ⟨by rfl, ?_⟩) hHeld ?_ ?_
       rotate_left
       ·rintro w' ⟨s0, s1, s2, s3, s4, s5⟩
        go_simp
        with_reducible rfl
       rotate_left
       ·simp only [Act.put, List.setIfInBounds_toArray, List.set_cons_zero, List.set_cons_succ, i64_w, i32_w]
        rfl
       refine take_ (i := 2) (N := some 42) (v := ?_) (a' := ?_) #[true, true, true, false, false, false, true, false, false, false, false, false, false, false] rfl rfl (take_ofW HT_.out HW_.out (by kernel_rfl)) (fun _ _ _ h => h) (Or.inl ⟨by rfl, ?_⟩) hHeld ?_ ?_
       rotate_left
       ·rintro w' ⟨s0, s1, s2, s3, s4, s5⟩
        go_simp
        with_reducible rfl
       rotate_left
       ·simp only [Act.put, List.setIfInBounds_toArray, List.set_cons_zero, List.set_cons_succ, i64_w, i32_w]
        rfl
       refine pure_ (i := 3) (N := some 43) (v := ?_) (a' := ?_) #[true, true, true, true, false, false, true, false, false, false, false, false, false, false] rfl rfl (any_of HT_.out (by kernel_rfl)) (fun _ _ _ h => h) (Or.inl ⟨by rfl, ?_⟩) ?_ ?_
       rotate_left
       ·intro w'
        go_simp
        with_reducible rfl
       rotate_left
       ·simp only [Act.put, List.setIfInBounds_toArray, List.set_cons_zero, List.set_cons_succ, i64_w, i32_w]
        rfl
       refine pure_ (i := 4) (N := some 44) (v := ?_) (a' := ?_) #[true, true, true, true, true, false, true, false, false, false, false, false, false, false] rfl rfl (any_of HT_.out (by kernel_rfl)) (fun _ _ _ h => h) (Or.inl ⟨by rfl, ?_⟩) ?_ ?_
       rotate_left
       ·intro w'
        go_simp
        with_reducible rfl
       rotate_left
       ·simp only [Act.put, List.setIfInBounds_toArray, List.set_cons_zero, List.set_cons_succ, i64_w, i32_w]
        rfl
       refine take_ (i := 5) (N := some 45) (v := ?_) (a' := ?_) #[true, true, true, true, true, true, true, false, false, false, false, false, false, false] rfl rfl (take_ofW HT_.out HW_.out (by kernel_rfl)) (fun _ _ _ h => h) (Or.inl ⟨by rfl, ?_⟩) hHeld ?_ ?_
       rotate_left
       ·rintro w' ⟨s0, s1, s2, s3, s4, s5⟩
        go_simp
        with_reducible rfl
       rotate_left
       ·simp only [Act.put, List.setIfInBounds_toArray, List.set_cons_zero, List.set_cons_succ, i64_w, i32_w]
        rfl
       refine take_ (i := 7) (N := some 47) (v := ?_) (a' := ?_) #[true, true, true, true, true, true, true, true, false, false, false, false, false, false] rfl rfl (take_ofW HT_.out HW_.out (by kernel_rfl)) (fun _ _ _ h => h) (Or.inl ⟨by rfl, ?_⟩) hHeld ?_ ?_
       rotate_left
       ·rintro w' ⟨s0, s1, s2, s3, s4, s5⟩
        go_simp
        with_reducible rfl
       rotate_left
       ·simp only [Act.put, List.setIfInBounds_toArray, List.set_cons_zero, List.set_cons_succ, i64_w, i32_w]
        rfl
       refine pure_ (i := 8) (N := some 48) (v := ?_) (a' := ?_) #[true, true, true, true, true, true, true, true, true, false, false, false, false, false] rfl rfl (any_of HT_.out (by kernel_rfl)) (fun _ _ _ h => h) (Or.inl ⟨by rfl, ?_⟩) ?_ ?_
       rotate_left
       ·intro w'
        go_simp
        with_reducible rfl
       rotate_left
       ·simp only [Act.put, List.setIfInBounds_toArray, List.set_cons_zero, List.set_cons_succ, i64_w, i32_w]
        rfl
       refine pure_ (i := 9) (N := some 49) (v := ?_) (a' := ?_) #[true, true, true, true, true, true, true, true, true, true, false, false, false, false] rfl rfl (any_of HT_.out (by kernel_rfl)) (fun _ _ _ h => h) (Or.inl ⟨by rfl, ?_⟩) ?_ ?_
       rotate_left
       ·intro w'
        go_simp
        with_reducible rfl
       rotate_left
       ·simp only [Act.put, List.setIfInBounds_toArray, List.set_cons_zero, List.set_cons_succ, i64_w, i32_w]
        rfl
       refine take_ (i := 10) (N := some 50) (v := ?_) (a' := ?_) #[true, true, true, true, true, true, true, true, true, true, true, false, false, false] rfl rfl (take_ofW HT_.out HW_.out (by kernel_rfl)) (fun _ _ _ h => h) (Or.inl ⟨by rfl, ?_⟩) hHeld ?_ ?_
       rotate_left
       ·rintro w' ⟨s0, s1, s2, s3, s4, s5⟩
        go_simp
        with_reducible rfl
       rotate_left
       ·simp only [Act.put, List.setIfInBounds_toArray, List.set_cons_zero, List.set_cons_succ, i64_w, i32_w]
        rfl
       refine one_ (i := 11) (N := none) #[true, true, true, true, true, true, true, true, true, true, true, true, false, false] rfl rfl (one_of HT_.out (by kernel_rfl)) (by decide) (fun K hK => ?_)
       have hs56 : w54.cell? ⟨gb223, 0, none⟩ = some (.int .i64 0) := (Yd BK223.out 0).trans rfl
       have hfs56 := Ye BK223.out 0
       have hns56_1 := NB232_223.out
       have hms56_1 := NB223_232.out
       have hs57 : w54.cell? ⟨gb223, 1, none⟩ = some (.slice none 0 0) := (Yd BK223.out 1).trans rfl
       have hfs57 := Ye BK223.out 1
       have hns57_1 := NB232_223.out
       have hms57_1 := NB223_232.out
       refine skip_ (w1 := ?_) (by rfl) rfl ?_ ?_
       rotate_left
       ·go_simp
        rfl
       refine hK.out _ _ ⟨((cell_far (p := ⟨gb223, _, none⟩) NB232_223.out _).trans (((cell_far (p := ⟨gb223, _, none⟩) NB232_223.out _).trans (hHeld.1)))), ((cell_far (p := ⟨gb223, _, none⟩) NB232_223.out _).trans (((cell_far (p := ⟨gb223, _, none⟩) NB232_223.out _).trans (hHeld.2.1)))), ((cell_far (p := ⟨gb223, _, none⟩) (by first | exact Kd.own_blk (Kd.R_ne HO_233001.out BK223.out (by decide)) | (rw [add_block]; exact Kd.own_blk (Kd.R_ne HO_233001.out BK223.out (by decide))) | (show (Addr.add _ _).block ≠ _; rw [add_block]; exact Kd.own_blk (Kd.R_ne HO_233001.out BK223.out (by decide))) | (dsimp only; exact Kd.own_blk (Kd.R_ne HO_233001.out BK223.out (by decide)))) _).trans (((cell_far (p := ⟨gb223, _, none⟩) (by first | exact Kd.own_blk (Kd.R_ne HO_233001.out BK223.out (by decide)) | (rw [add_block]; exact Kd.own_blk (Kd.R_ne HO_233001.out BK223.out (by decide))) | (show (Addr.add _ _).block ≠ _; rw [add_block]; exact Kd.own_blk (Kd.R_ne HO_233001.out BK223.out (by decide))) | (dsimp only; exact Kd.own_blk (Kd.R_ne HO_233001.out BK223.out (by decide)))) _).trans (hHeld.2.2.1)))), ((cell_far (p := ⟨gb223, _, none⟩) (by first | exact Kd.own_blk (Kd.R_ne HO_233001.out BK223.out (by decide)) | (rw [add_block]; exact Kd.own_blk (Kd.R_ne HO_233001.out BK223.out (by decide))) | (show (Addr.add _ _).block ≠ _; rw [add_block]; exact Kd.own_blk (Kd.R_ne HO_233001.out BK223.out (by decide))) | (dsimp only; exact Kd.own_blk (Kd.R_ne HO_233001.out BK223.out (by decide)))) _).trans (((cell_far (p := ⟨gb223, _, none⟩) (by first | exact Kd.own_blk (Kd.R_ne HO_233001.out BK223.out (by decide)) | (rw [add_block]; exact Kd.own_blk (Kd.R_ne HO_233001.out BK223.out (by decide))) | (show (Addr.add _ _).block ≠ _; rw [add_block]; exact Kd.own_blk (Kd.R_ne HO_233001.out BK223.out (by decide))) | (dsimp only; exact Kd.own_blk (Kd.R_ne HO_233001.out BK223.out (by decide)))) _).trans (hHeld.2.2.2.1)))), ((cell_far (p := ⟨gb223, _, none⟩) (by first | exact Kd.own_blk (Kd.R_ne HO_233001.out BK223.out (by decide)) | (rw [add_block]; exact Kd.own_blk (Kd.R_ne HO_233001.out BK223.out (by decide))) | (show (Addr.add _ _).block ≠ _; rw [add_block]; exact Kd.own_blk (Kd.R_ne HO_233001.out BK223.out (by decide))) | (dsimp only; exact Kd.own_blk (Kd.R_ne HO_233001.out BK223.out (by decide)))) _).trans (((cell_far (p := ⟨gb223, _, none⟩) (by first | exact Kd.own_blk (Kd.R_ne HO_233001.out BK223.out (by decide)) | (rw [add_block]; exact Kd.own_blk (Kd.R_ne HO_233001.out BK223.out (by decide))) | (show (Addr.add _ _).block ≠ _; rw [add_block]; exact Kd.own_blk (Kd.R_ne HO_233001.out BK223.out (by decide))) | (dsimp only; exact Kd.own_blk (Kd.R_ne HO_233001.out BK223.out (by decide)))) _).trans (hHeld.2.2.2.2.1)))), ((cell_far (p := ⟨gb223, _, none⟩) (by first | exact Kd.own_blk (Kd.R_ne HO_233001.out BK223.out (by decide)) | (rw [add_block]; exact Kd.own_blk (Kd.R_ne HO_233001.out BK223.out (by decide))) | (show (Addr.add _ _).block ≠ _; rw [add_block]; exact Kd.own_blk (Kd.R_ne HO_233001.out BK223.out (by decide))) | (dsimp only; exact Kd.own_blk (Kd.R_ne HO_233001.out BK223.out (by decide)))) _).trans (((cell_far (p := ⟨gb223, _, none⟩) (by first | exact Kd.own_blk (Kd.R_ne HO_233001.out BK223.out (by decide)) | (rw [add_block]; exact Kd.own_blk (Kd.R_ne HO_233001.out BK223.out (by decide))) | (show (Addr.add _ _).block ≠ _; rw [add_block]; exact Kd.own_blk (Kd.R_ne HO_233001.out BK223.out (by decide))) | (dsimp only; exact Kd.own_blk (Kd.R_ne HO_233001.out BK223.out (by decide)))) _).trans (hHeld.2.2.2.2.2))))⟩ (fun hHeld => ?_)
       clear hK K
       refine pure_ (i := 12) (N := some 3) (v := ?_) (a' := ?_) #[true, true, true, true, true, true, true, true, true, true, true, true, true, false] rfl rfl (any_of HT_.out (by kernel_rfl)) (fun _ _ _ h => h) (Or.inl ⟨by rfl, ?_⟩) ?_ ?_
       rotate_left
       ·intro w'
        go_simp
        with_reducible rfl
       rotate_left
       ·simp only [Act.put, List.setIfInBounds_toArray, List.set_cons_zero, List.set_cons_succ, i64_w, i32_w]
        rfl
       refine pure_ (i := 13) (N := some 4) (v := ?_) (a' := ?_) #[true, true, true, true, true, true, true, true, true, true, true, true, true, true] rfl rfl (any_of HT_.out (by kernel_rfl)) (fun _ _ _ h => h) (Or.inl ⟨by rfl, ?_⟩) ?_ ?_
       rotate_left
       ·intro w'
        go_simp
        with_reducible rfl
       rotate_left
       ·simp only [Act.put, List.setIfInBounds_toArray, List.set_cons_zero, List.set_cons_succ, i64_w, i32_w]
        rfl
       refine done_ (done_of HT_.out (by kernel_rfl)) ?_
       try go_wp2
       refine bodyPost_ret (results_ctt rfl _ _ gb223 28 #[.int .i64 t227, .slice (some ad245) x233001_4.length co55] (0, 0) _ rfl (by (with_reducible repeat (first | refine Ya ?_ _ | refine Yb ?_ | refine Yc ?_ _)); refine blk_put (cs := #[.int .i64 t227, .slice none 0 0]) ?_ 1 _ rfl; (with_reducible repeat (first | refine Ya ?_ _ | refine Yb ?_ | refine Yc ?_ _)); refine blk_put (cs := #[.int .i64 0, .slice none 0 0]) ?_ 0 _ rfl; (with_reducible repeat (first | refine Ya ?_ _ | refine Yb ?_ | refine Yc ?_ _)); exact BK223.out) Try.underlying28 rfl (by kernel_rfl)) rfl ?_
       exact ⟨_, by first | rfl | (simp [errW_none, errW_some] <;> rfl) | (simp [*, errW_none, errW_some] <;> rfl), by (with_reducible repeat (first | apply Yl | apply Yk | apply Kd.R_drew)); exact Kd.R_mono (Kd.R_far (p := ⟨gb223, 1, none⟩) (Kd.R_far (p := ⟨gb223, 0, none⟩) (Kd.R_types HO_233001.out BK223.out (by decide)) (fun _ hk => hk.2) (.int .i64 t227)) (fun _ hk => hk.2) (.slice (some ad245) x233001_4.length co55)) (fun _ hk => trivial), by repeat (first | (with_reducible first | exact HB.out | apply Yf | apply Yg | apply Yh | refine Yi ?_ (IsS71.ge HI226.out) | refine Yi ?_ GE223.out | refine Yi ?_ GE232.out) | exact HB.out)⟩
      ·rw [if_neg c53] at H
       exact absurd H (by simp)
     ·replace c52 := Bool.eq_false_iff.mpr c52
      subst c52
      have H1 : ((spec_l7Some.f kj39 t224 x227001_39 t227 x233001_4).bind fun bt247 => ((spec_l7Some.f kj39 t224 bt247.2 t227 x233001_4).bind fun bt249 => (some (t227, x233001_4, bt247.1, bt249.1)))) = some (r1, r2, r3, r4) := by rw [if_neg (show ¬ (false = true) by decide)] at H; exact H
      clear H
      have H := H1
      clear H1
      replace H := Option.bind_eq_some_iff.mp H
      obtain ⟨⟨t247, t248⟩, A580, H⟩ := H
      replace H : ((spec_l7Some.f kj39 t224 t248 t227 x233001_4).bind fun bt249 => (some (t227, x233001_4, t247, bt249.1))) = some (r1, r2, r3, r4) := H
      have A58 := Yj A580
      clear A580
      replace H := Option.bind_eq_some_iff.mp H
      obtain ⟨⟨t249, t250⟩, A590, H⟩ := H
      replace H : (some (t227, x233001_4, t247, t249)) = some (r1, r2, r3, r4) := H
      have A59 := Yj A590
      clear A590
      simp only [Option.some.injEq, Prod.mk.injEq] at H
      obtain ⟨rfl, rfl, rfl, rfl⟩ := H
      try go_wp2
      have n0_ := Yj (Kd.R_drew HO_233001.out)
      have n1_ := Yj (Yb BK223.out)
      have n2_ := Yj (Yb BK232.out)
      have n3_ := Yj (IsS71.drew HI226.out)
      have n4_ := Yj (Yh HB.out)
      clear HO_233001
      clear BK223
      clear BK232
      clear HI226
      clear HB
      have HO_233001 := n0_
      have BK223 := n1_
      have BK232 := n2_
      have HI226 := n3_
      have HB := n4_
      clear n0_ n1_ n2_ n3_ n4_
      obtain ⟨Ao61, co61, eo61⟩ := Kd.R_slice HO_233001.out
      (first | subst eo61 | (injection eo61 with f1_ f2_ f3_; have f4_ := f1_.symm; have f5_ := f3_.symm; clear f1_ f2_ f3_; subst f4_; subst f5_))
      refine start_ (n := 10) (S := fun w' => w'.cell? ⟨gb232, 0, none⟩ = some (.int .i64 t227) ∧ w'.cell? ⟨gb232, 1, none⟩ = some (.slice Ao61 x233001_4.length co61)) (ds := []) #[false, false, false, false, false, false, false, false, false, false] (by kernel_rfl) rfl rfl ⟨(Yd BK232.out 0).trans rfl, (Yd BK232.out 1).trans rfl⟩ (fun hHeld => ?_); refine with_tabW spec_DrawAddAnd.tab10 spec_DrawAddAnd.bits10 (fun HT_ HW_ => ?_)
      generalize wc.drew = w60 at HO_233001 BK223 BK232 HI226 HB hHeld ⊢
      refine pure_ (i := 1) (N := some 52) (v := ?_) (a' := ?_) #[false, true, false, false, false, false, false, false, false, false] rfl rfl (any_of HT_.out (by kernel_rfl)) (fun _ _ _ h => h) (Or.inl ⟨by rfl, ?_⟩) ?_ ?_
      rotate_left
      ·intro w'
       go_simp
       with_reducible rfl
      rotate_left
      ·simp only [Act.put, List.setIfInBounds_toArray, List.set_cons_zero, List.set_cons_succ, i64_w, i32_w]
       rfl
      refine pure_ (i := 4) (N := some 55) (v := ?_) (a' := ?_) #[false, true, false, false, true, false, false, false, false, false] rfl rfl (any_of HT_.out (by kernel_rfl)) (fun _ _ _ h => h) (Or.inl ⟨by rfl, ?_⟩) ?_ ?_
      rotate_left
      ·intro w'
       go_simp
       with_reducible rfl
      rotate_left
      ·simp only [Act.put, List.setIfInBounds_toArray, List.set_cons_zero, List.set_cons_succ, i64_w, i32_w]
       rfl
      refine take_ (i := 0) (N := some 51) (v := ?_) (a' := ?_) #[true, true, false, false, true, false, false, false, false, false] rfl rfl (take_ofW HT_.out HW_.out (by kernel_rfl)) (fun _ _ _ h => h) (Or.inl ⟨by rfl, ?_⟩) hHeld ?_ ?_
      rotate_left
      ·rintro w' ⟨s0, s1⟩
       go_simp
       with_reducible rfl
      rotate_left
      ·simp only [Act.put, List.setIfInBounds_toArray, List.set_cons_zero, List.set_cons_succ, i64_w, i32_w]
       rfl
      refine take_ (i := 2) (N := some 53) (v := ?_) (a' := ?_) #[true, true, true, false, true, false, false, false, false, false] rfl rfl (take_ofW HT_.out HW_.out (by kernel_rfl)) (fun _ _ _ h => h) (Or.inl ⟨by rfl, ?_⟩) hHeld ?_ ?_
      rotate_left
      ·rintro w' ⟨s0, s1⟩
       go_simp
       with_reducible rfl
      rotate_left
      ·simp only [Act.put, List.setIfInBounds_toArray, List.set_cons_zero, List.set_cons_succ, i64_w, i32_w]
       rfl
      refine take_ (i := 5) (N := some 56) (v := ?_) (a' := ?_) #[true, true, true, false, true, true, false, false, false, false] rfl rfl (take_ofW HT_.out HW_.out (by kernel_rfl)) (fun _ _ _ h => h) (Or.inl ⟨by rfl, ?_⟩) hHeld ?_ ?_
      rotate_left
      ·rintro w' ⟨s0, s1⟩
       go_simp
       with_reducible rfl
      rotate_left
      ·simp only [Act.put, List.setIfInBounds_toArray, List.set_cons_zero, List.set_cons_succ, i64_w, i32_w]
       rfl
      refine one_ (i := 3) (N := some 54) #[true, true, true, true, true, true, false, false, false, false] rfl rfl (one_of HT_.out (by kernel_rfl)) (by decide) (fun K hK => ?_)
      refine goes_ Try.func36 (by kernel_rfl) rfl #[.pointer (some ⟨g226, 0, none⟩), .agg #[.int .i64 t227, .slice Ao61 x233001_4.length co61]] (by rfl) rfl rfl (by (try simp only [List.map_toArray, List.map_cons, List.map_nil]); first | done | rfl | (simp only [List.length_drop, List.length_take]; rfl)) ?_
      with_reducible refine (spec_l7Some.calls kj39 g226 t224 x227001_39 t227 _ _ x233001_4 t247 t248 w _ ?side1 ?side2 ?side3 ?side4 A58.out).mono ?_
      (case side1 => repeat (first | (with_reducible first | exact HI226.out | apply IsS71.alloc | apply IsS71.drewN | apply IsS71.drew | apply IsS71.set_1 | refine IsS71.far ?_ NB226_223.out _ | refine IsS71.far ?_ NB226_232.out _) | exact HI226.out))
      (case side2 => repeat (first | (with_reducible first | exact HB.out | apply Yf | apply Yg | apply Yh | refine Yi ?_ (IsS71.ge HI226.out) | refine Yi ?_ GE223.out | refine Yi ?_ GE232.out) | exact HB.out))
      (case side3 => exact Kd.C_foot_own (IsS71.apart (show IsS71 w _ g226 t224 x227001_39 from by repeat (first | (with_reducible first | exact HI226.out | apply IsS71.alloc | apply IsS71.drewN | apply IsS71.drew | apply IsS71.set_1 | refine IsS71.far ?_ NB226_223.out _ | refine IsS71.far ?_ NB226_232.out _) | exact HI226.out)) (by (with_reducible repeat (first | apply Yl | apply Yk | apply Kd.R_drew)); exact HO_233001.out) (by decide)) (fun _ h_ => h_.2))
      (case side4 => exact (Kd.R_reads' HO_233001.out).2.1)
      rintro e w62 ⟨rfl, hi, hb, hk⟩
      refine ⟨_, rfl, ?_⟩
      have n0_ := Yj (Kd.R_mono (Kd.R_keep (IsS71.apart (show IsS71 w _ g226 t224 x227001_39 from by repeat (first | (with_reducible first | exact HI226.out | apply IsS71.alloc | apply IsS71.drewN | apply IsS71.drew | apply IsS71.set_1 | refine IsS71.far ?_ NB226_223.out _ | refine IsS71.far ?_ NB226_232.out _) | exact HI226.out)) (by (with_reducible repeat (first | apply Yl | apply Yk | apply Kd.R_drew)); exact HO_233001.out) (by decide)) hk (fun _ h => h.2)) (fun _ h => h.1))
      have n1_ := Yj (KeepBut.blk hk (g' := gb223) (o := .cells #[.int .i64 0, .slice none 0 0] 28 (0, 0)) (by (with_reducible repeat (first | refine Ya ?_ _ | refine Yb ?_ | refine Yc ?_ _)); exact BK223.out) NB223_226.out (by simp))
      have n2_ := Yj (KeepBut.blk hk (g' := gb232) (o := .cells #[.int .i64 t227, .slice Ao61 x233001_4.length co61] 28 (0, 0)) (by (with_reducible repeat (first | refine Ya ?_ _ | refine Yb ?_ | refine Yc ?_ _)); exact BK232.out) NB232_226.out (by simp))
      have n3_ := Yj (hb)
      have n4_ := Yj (hi)
      clear HO_233001
      clear BK223
      clear BK232
      clear HB
      clear HI226
      have HO_233001 := n0_
      have BK223 := n1_
      have BK232 := n2_
      have HB := n3_
      have HI226 := n4_
      clear n0_ n1_ n2_ n3_ n4_
      (try clear hb)
      (try clear hb2)
      (try clear hk)
      (try clear hi)
      refine hK.out _ _ ⟨(Yd BK232.out 0).trans rfl, (Yd BK232.out 1).trans rfl⟩ (fun hHeld => ?_)
      clear hK K
      refine norm_ (a' := ?_) ?_ ?_
      rotate_left
      ·show Act.put _ (some 54) _ = _
       simp only [Act.put, List.setIfInBounds_toArray, List.set_cons_zero, List.set_cons_succ, i64_w, i32_w]
       rfl
      refine one_ (i := 6) (N := some 57) #[true, true, true, true, true, true, true, false, false, false] rfl rfl (one_of HT_.out (by kernel_rfl)) (by decide) (fun K hK => ?_)
      refine goes_ Try.func36 (by kernel_rfl) rfl #[.pointer (some ⟨g226, 0, none⟩), .agg #[.int .i64 t227, .slice Ao61 x233001_4.length co61]] (by rfl) rfl rfl (by (try simp only [List.map_toArray, List.map_cons, List.map_nil]); first | done | rfl | (simp only [List.length_drop, List.length_take]; rfl)) ?_
      with_reducible refine (spec_l7Some.calls kj39 g226 t224 t248 t227 _ _ x233001_4 t249 t250 w _ ?side1 ?side2 ?side3 ?side4 A59.out).mono ?_
      (case side1 => repeat (first | (with_reducible first | exact HI226.out | apply IsS71.alloc | apply IsS71.drewN | apply IsS71.drew | apply IsS71.set_1 | refine IsS71.far ?_ NB226_223.out _ | refine IsS71.far ?_ NB226_232.out _) | exact HI226.out))
      (case side2 => repeat (first | (with_reducible first | exact HB.out | apply Yf | apply Yg | apply Yh | refine Yi ?_ (IsS71.ge HI226.out) | refine Yi ?_ GE223.out | refine Yi ?_ GE232.out) | exact HB.out))
      (case side3 => exact Kd.C_foot_own (IsS71.apart (show IsS71 w _ g226 t224 t248 from by repeat (first | (with_reducible first | exact HI226.out | apply IsS71.alloc | apply IsS71.drewN | apply IsS71.drew | apply IsS71.set_1 | refine IsS71.far ?_ NB226_223.out _ | refine IsS71.far ?_ NB226_232.out _) | exact HI226.out)) (by (with_reducible repeat (first | apply Yl | apply Yk | apply Kd.R_drew)); exact HO_233001.out) (by decide)) (fun _ h_ => h_.2))
      (case side4 => exact (Kd.R_reads' HO_233001.out).2.1)
      rintro e w63 ⟨rfl, hi, hb, hk⟩
      refine ⟨_, rfl, ?_⟩
      have n0_ := Yj (Kd.R_mono (Kd.R_keep (IsS71.apart (show IsS71 w _ g226 t224 t248 from by repeat (first | (with_reducible first | exact HI226.out | apply IsS71.alloc | apply IsS71.drewN | apply IsS71.drew | apply IsS71.set_1 | refine IsS71.far ?_ NB226_223.out _ | refine IsS71.far ?_ NB226_232.out _) | exact HI226.out)) (by (with_reducible repeat (first | apply Yl | apply Yk | apply Kd.R_drew)); exact HO_233001.out) (by decide)) hk (fun _ h => h.2)) (fun _ h => h.1))
      have n1_ := Yj (KeepBut.blk hk (g' := gb223) (o := .cells #[.int .i64 0, .slice none 0 0] 28 (0, 0)) (by (with_reducible repeat (first | refine Ya ?_ _ | refine Yb ?_ | refine Yc ?_ _)); exact BK223.out) NB223_226.out (by simp))
      have n2_ := Yj (KeepBut.blk hk (g' := gb232) (o := .cells #[.int .i64 t227, .slice Ao61 x233001_4.length co61] 28 (0, 0)) (by (with_reducible repeat (first | refine Ya ?_ _ | refine Yb ?_ | refine Yc ?_ _)); exact BK232.out) NB232_226.out (by simp))
      have n3_ := Yj (hb)
      have n4_ := Yj (hi)
      clear HO_233001
      clear BK223
      clear BK232
      clear HB
      clear HI226
      have HO_233001 := n0_
      have BK223 := n1_
      have BK232 := n2_
      have HB := n3_
      have HI226 := n4_
      clear n0_ n1_ n2_ n3_ n4_
      (try clear hb)
      (try clear hb2)
      (try clear hk)
      (try clear hi)
      refine hK.out _ _ ⟨(Yd BK232.out 0).trans rfl, (Yd BK232.out 1).trans rfl⟩ (fun hHeld => ?_)
      clear hK K
      refine norm_ (a' := ?_) ?_ ?_
      rotate_left
      ·show Act.put _ (some 57) _ = _
       simp only [Act.put, List.setIfInBounds_toArray, List.set_cons_zero, List.set_cons_succ, i64_w, i32_w]
       rfl
      refine one_ (i := 7) (N := none) #[true, true, true, true, true, true, true, true, false, false] rfl rfl (one_of HT_.out (by kernel_rfl)) (by decide) (fun K hK => ?_)
      have hs64 : w63.cell? ⟨gb223, 0, none⟩ = some (.int .i64 0) := (Yd BK223.out 0).trans rfl
      have hfs64 := Ye BK223.out 0
      have hns64_1 := NB232_223.out
      have hms64_1 := NB223_232.out
      have hs65 : w63.cell? ⟨gb223, 1, none⟩ = some (.slice none 0 0) := (Yd BK223.out 1).trans rfl
      have hfs65 := Ye BK223.out 1
      have hns65_1 := NB232_223.out
      have hms65_1 := NB223_232.out
      refine skip_ (w1 := ?_) (by rfl) rfl ?_ ?_
      rotate_left
      ·go_simp
       rfl
      refine hK.out _ _ ⟨((cell_far (p := ⟨gb223, _, none⟩) NB232_223.out _).trans (((cell_far (p := ⟨gb223, _, none⟩) NB232_223.out _).trans (hHeld.1)))), ((cell_far (p := ⟨gb223, _, none⟩) NB232_223.out _).trans (((cell_far (p := ⟨gb223, _, none⟩) NB232_223.out _).trans (hHeld.2))))⟩ (fun hHeld => ?_)
      clear hK K
      refine pure_ (i := 8) (N := some 3) (v := ?_) (a' := ?_) #[true, true, true, true, true, true, true, true, true, false] rfl rfl (any_of HT_.out (by kernel_rfl)) (fun _ _ _ h => h) (Or.inl ⟨by rfl, ?_⟩) ?_ ?_
      rotate_left
      ·intro w'
       go_simp
       with_reducible rfl
      rotate_left
      ·simp only [Act.put, List.setIfInBounds_toArray, List.set_cons_zero, List.set_cons_succ, i64_w, i32_w]
       rfl
      refine pure_ (i := 9) (N := some 4) (v := ?_) (a' := ?_) #[true, true, true, true, true, true, true, true, true, true] rfl rfl (any_of HT_.out (by kernel_rfl)) (fun _ _ _ h => h) (Or.inl ⟨by rfl, ?_⟩) ?_ ?_
      rotate_left
      ·intro w'
       go_simp
       with_reducible rfl
      rotate_left
      ·simp only [Act.put, List.setIfInBounds_toArray, List.set_cons_zero, List.set_cons_succ, i64_w, i32_w]
       rfl
      refine done_ (done_of HT_.out (by kernel_rfl)) ?_
      try go_wp2
      refine bodyPost_ret (results_ctt rfl _ _ gb223 28 #[.int .i64 t227, .slice Ao61 x233001_4.length co61] (0, 0) _ rfl (by (with_reducible repeat (first | refine Ya ?_ _ | refine Yb ?_ | refine Yc ?_ _)); refine blk_put (cs := #[.int .i64 t227, .slice none 0 0]) ?_ 1 _ rfl; (with_reducible repeat (first | refine Ya ?_ _ | refine Yb ?_ | refine Yc ?_ _)); refine blk_put (cs := #[.int .i64 0, .slice none 0 0]) ?_ 0 _ rfl; (with_reducible repeat (first | refine Ya ?_ _ | refine Yb ?_ | refine Yc ?_ _)); exact BK223.out) Try.underlying28 rfl (by kernel_rfl)) rfl ?_
      exact ⟨_, by first | rfl | (simp [errW_none, errW_some] <;> rfl) | (simp [*, errW_none, errW_some] <;> rfl), by (with_reducible repeat (first | apply Yl | apply Yk | apply Kd.R_drew)); exact Kd.R_mono (Kd.R_far (p := ⟨gb223, 1, none⟩) (Kd.R_far (p := ⟨gb223, 0, none⟩) (Kd.R_types HO_233001.out BK223.out (by decide)) (fun _ hk => hk.2) (.int .i64 t227)) (fun _ hk => hk.2) (.slice Ao61 x233001_4.length co61)) (fun _ hk => trivial), by repeat (first | (with_reducible first | exact HB.out | apply Yf | apply Yg | apply Yh | refine Yi ?_ (IsS71.ge HI226.out) | refine Yi ?_ GE223.out | refine Yi ?_ GE232.out) | exact HB.out)⟩

end Go.Proofs.Ythphgkhmeobadaa.XFnAddAndOr
