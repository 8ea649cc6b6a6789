/- Printed by a program of this session out of the translation: the Go functions that a law uses as plain Lean functions, with the proofs of their calls, or the law's row.
Conditions: those that each theorem states. -/
import Derived.Test.YthphgkhmeobadabXFnSameEdgesx0
import Derived.Test.YthphgkhmeobadabXFnSameEdgesx4
namespace Go.Proofs.Ythphgkhmeobadab.XFnSameEdges
open Go.RowKit Go.Proofs.YthphgkhmeobadabW.PrintWords Go.Proofs.YthphgkhmeobadabW.PrintLast Go.Proofs.YthphgkhmeobadabW.PrintMore
attribute [local go_sem] max2_int min2_int max_two min_two max_three min_three max_four min_four   -- for this text's walks alone
set_option linter.unusedVariables false
set_option linter.unusedSimpArgs false

/-! ### spec_l7Or: function 39 -/
def spec_l7Or.f (k : Nat) (a0_0 : Int) (l0_1 : List (S73)) (a1 : Int) (a2 : Int) : Option (Int × (List (S73)) × Int) := (spec_l7Not.f a1).bind fun t188 => ((spec_l7Not.f a2).bind fun t189 => ((spec_l7And.f k a0_0 l0_1 t188 t189).bind fun bt190 => ((spec_l7Not.f bt190.2.2).bind fun t196 => (some (bt190.1, bt190.2.1, t196)))))
theorem spec_l7Or.mono : ∀ a0 a1 a2 a3 k, LeO (spec_l7Or.f k a0 a1 a2 a3) (spec_l7Or.f (k + 1) a0 a1 a2 a3) := by
 intro a0 a1 a2 a3 k
 unfold spec_l7Or.f
 repeat' first
   | (with_reducible exact spec_l7And.mono _ _ _ _ _)
   | (with_reducible exact LeO.refl _)
   | (with_reducible exact LeO.none _)
   | (with_reducible refine LeO.ite ?_ ?_)
   | (with_reducible refine LeO.bind ?_ (fun _ => ?_))
   | exact spec_l7And.mono _ _ _ _ _
   | exact LeO.none _
   | refine LeO.ite ?_ ?_
   | refine LeO.bind ?_ (fun _ => ?_)
def spec_l7Or.T1 : Bool × List (List Nat × List Nat) := (true, [([], []), ([], []), ([1], [1]), ([], []), ([3, 2], [3]), ([0, 2, 4, 4], [0, 2, 4]), ([5], [5]), ([6], [6]), ([6], [6]), ([], []), ([9, 7, 5, 0, 1, 2, 3, 4, 5, 6, 7, 9], [7, 9]), ([8, 10, 0, 1, 2, 3, 4, 5, 6, 7, 8, 9, 10], [8])])
def spec_l7Or.B1 : List Nat := [0, 0, 2, 0, 14, 31, 63, 127, 127, 0, 767, 2047]
theorem spec_l7Or.tab1 : rtab .any (opsOf Try.f39 1) = spec_l7Or.T1 := by kernel_rfl
theorem spec_l7Or.bits1 : waitsOk spec_l7Or.T1.2 spec_l7Or.B1 = true := by kernel_rfl
set_option maxHeartbeats 8000000 in
set_option maxRecDepth 100000 in
theorem spec_l7Or.calls (k : Nat) (a0_0 : Int) (P0_1_ : Nat → Prop) (u9000_ : Value) (l0_1 : List (S73)) (a1 : Int) (a2 : Int) (r1 : Int) (r2 : List (S73)) (r3 : Int) (w0 w : World) (hB : Below w0.heap.size w0 w) (ho0_1 : Kd.R k73 73 w w0.heap.size P0_1_ u9000_ l0_1) (h : spec_l7Or.f k a0_0 l0_1 a1 a2 = some (r1, r2, r3)) :
  Calls Try.prog 39 #[.agg #[.int .i64 a0_0, u9000_], .int .i64 a1, .int .i64 a2] w fun e w' => ∃ v1_ : Value, e = .returned (.tuple #[.agg #[.int .i64 r1, v1_], .int .i64 r3]) ∧ Kd.R k73 73 w' w0.heap.size (fun k_ => (P0_1_ k_ ∨ w.heap.size ≤ k_)) v1_ r2 ∧ Below w0.heap.size w0 w' ∧ Kept w w' (fun k_ => P0_1_ k_) := by
 have hu36 := Try.underlying36
 have HO0_1 := Yj (show Kd.R k73 73 w w0.heap.size (fun k_ => (P0_1_ k_ ∨ w.heap.size ≤ k_)) u9000_ l0_1 from Kd.R_mono ho0_1 (fun k_ hk => (.inl hk)))
 have HK := Yj (Kept.refl w (fun k_ => P0_1_ k_))
 have HW0 := Yj hB.size
 have HB := Yj hB
 clear hB
 have H : ((spec_l7Not.f a1).bind fun t188 => ((spec_l7Not.f a2).bind fun t189 => ((spec_l7And.f k a0_0 l0_1 t188 t189).bind fun bt190 => ((spec_l7Not.f bt190.2.2).bind fun t196 => (some (bt190.1, bt190.2.1, t196)))))) = some (r1, r2, r3) := h
 clear h
 replace H := Yk H
 obtain ⟨t188, A40, H⟩ := H
 replace H : ((spec_l7Not.f a2).bind fun t189 => ((spec_l7And.f k a0_0 l0_1 t188 t189).bind fun bt190 => ((spec_l7Not.f bt190.2.2).bind fun t196 => (some (bt190.1, bt190.2.1, t196))))) = some (r1, r2, r3) := H
 have A4 := Yj A40
 clear A40
 replace H := Yk H
 obtain ⟨t189, A50, H⟩ := H
 replace H : ((spec_l7And.f k a0_0 l0_1 t188 t189).bind fun bt190 => ((spec_l7Not.f bt190.2.2).bind fun t196 => (some (bt190.1, bt190.2.1, t196)))) = some (r1, r2, r3) := H
 have A5 := Yj A50
 clear A50
 replace H := Yk H
 obtain ⟨⟨t190, t191, t194⟩, A60, H⟩ := H
 replace H : ((spec_l7Not.f t194).bind fun t196 => (some (t190, t191, t196))) = some (r1, r2, r3) := H
 have A6 := Yj A60
 clear A60
 replace H := Yk H
 obtain ⟨t196, A70, H⟩ := H
 replace H : (some (t190, t191, t196)) = some (r1, r2, r3) := H
 have A7 := Yj A70
 clear A70
 simp only [Option.some.injEq, Prod.mk.injEq] at H
 obtain ⟨rfl, rfl, rfl⟩ := H
 obtain ⟨Ao8, co8, eo8⟩ := Kd.R_slice HO0_1.out
 subst eo8
 go_enter Try.func39, Try.ntmps39
 try go_wp2_with (first | ((with_reducible refine gate_dst (N := 3) rfl ?_); refine box_event ?hg (N := 3) ?hd (cs := #[.int .i64 a0_0, .slice Ao8 l0_1.length co8]) (t := 36) ?hr ?_; (case hd => rfl); (case hg => rfl); (case hr => first | (go_simp; done) | (go_simp; rfl)); intro gb186 hg w9 hbox hb; have n0_ := Yj (Kd.R_below (by (with_reducible repeat (first | apply Kd.R_alloc | apply Kd.R_drewN | apply Kd.R_drew)); exact HO0_1.out) hb); have n1_ := Yj (Kept.below (S := (fun k_ => P0_1_ k_)) (by repeat (first | (with_reducible first | exact HK.out | apply Kept.alloc | apply Kept.drewN | apply Kept.drew) | exact HK.out)) hb); have n2_ := Yj (below_step (by repeat (first | (with_reducible first | exact HB.out | apply Yf | apply Yg | apply Yh) | exact HB.out)) hb); have n3_ := Yj (hbox); have n4_ := Yj ((by rw [hg]; exact (by first | exact HK.out.1 | exact (show Kept w _ (fun k_ => P0_1_ k_) from by repeat (first | (with_reducible first | exact HK.out | apply Kept.alloc | apply Kept.drewN | apply Kept.drew) | exact HK.out)).1) : w.heap.size ≤ gb186)); have n5_ := Yj ((by rw [hg]; exact (below_size (by repeat (first | (with_reducible first | exact HB.out | apply Yf | apply Yg | apply Yh) | exact HB.out))) : w0.heap.size ≤ gb186)); clear HO0_1; clear HK; clear HB; have HO0_1 := n0_; have HK := n1_; have HB := n2_; have BK186 := n3_; have GW186 := n4_; have GE186 := n5_; clear n0_ n1_ n2_ n3_ n4_ n5_; clear hb hbox hg) | ((with_reducible refine gate_dst (N := 6) rfl ?_); refine box_event ?hg (N := 6) ?hd (cs := #[.int .i64 0, .slice none 0 0]) (t := 36) ?hr ?_; (case hd => rfl); (case hg => rfl); (case hr => first | (go_simp; done) | (go_simp; rfl)); intro gb187 hg w10 hbox hb; have n0_ := Yj (Kd.R_below (by (with_reducible repeat (first | apply Kd.R_alloc | apply Kd.R_drewN | apply Kd.R_drew)); exact HO0_1.out) hb); have n1_ := Yj (blk_below (g := gb186) (o := .cells #[.int .i64 a0_0, .slice Ao8 l0_1.length co8] 36 (0, 0)) (by (with_reducible repeat (first | refine Ya ?_ _ | refine Yb ?_ | refine Yc ?_ _)); exact BK186.out) hb); have n2_ := Yj (Kept.below (S := (fun k_ => P0_1_ k_)) (by repeat (first | (with_reducible first | exact HK.out | apply Kept.alloc | apply Kept.drewN | apply Kept.drew | refine Kept.setCell ?_ (.inr GW186.out) _) | exact HK.out)) hb); have n3_ := Yj (below_step (by repeat (first | (with_reducible first | exact HB.out | apply Yf | apply Yg | apply Yh | refine Yi ?_ GE186.out) | exact HB.out)) hb); have n4_ := Yj (hbox); have n5_ := Yj ((by rw [hg]; exact (by first | exact HK.out.1 | exact (show Kept w _ (fun k_ => P0_1_ k_) from by repeat (first | (with_reducible first | exact HK.out | apply Kept.alloc | apply Kept.drewN | apply Kept.drew | refine Kept.setCell ?_ (.inr GW186.out) _) | exact HK.out)).1) : w.heap.size ≤ gb187)); have n6_ := Yj ((by rw [hg]; exact (below_size (by repeat (first | (with_reducible first | exact HB.out | apply Yf | apply Yg | apply Yh | refine Yi ?_ GE186.out) | exact HB.out))) : w0.heap.size ≤ gb187)); have n7_ := Yj ((by rw [hg]; exact Nat.ne_of_lt (blk_lt (g := gb186) (o := .cells #[.int .i64 a0_0, .slice Ao8 l0_1.length co8] 36 (0, 0)) (by (with_reducible repeat (first | refine Ya ?_ _ | refine Yb ?_ | refine Yc ?_ _)); exact BK186.out)) : gb186 ≠ gb187)); have n8_ := Yj ((by rw [hg]; exact Nat.ne_of_gt (blk_lt (g := gb186) (o := .cells #[.int .i64 a0_0, .slice Ao8 l0_1.length co8] 36 (0, 0)) (by (with_reducible repeat (first | refine Ya ?_ _ | refine Yb ?_ | refine Yc ?_ _)); exact BK186.out)) : gb187 ≠ gb186)); clear HO0_1; clear BK186; clear HK; clear HB; have HO0_1 := n0_; have BK186 := n1_; have HK := n2_; have HB := n3_; have BK187 := n4_; have GW187 := n5_; have GE187 := n6_; have NB186_187 := n7_; have NB187_186 := n8_; clear n0_ n1_ n2_ n3_ n4_ n5_ n6_ n7_ n8_; clear hb hbox hg))
 have n0_ := Yj (Kd.R_drew HO0_1.out)
 have n1_ := Yj (Yb BK186.out)
 have n2_ := Yj (Yb BK187.out)
 have n3_ := Yj (Kept.drew HK.out)
 have n4_ := Yj (Yh HB.out)
 clear HO0_1
 clear BK186
 clear BK187
 clear HK
 clear HB
 have HO0_1 := n0_
 have BK186 := n1_
 have BK187 := n2_
 have HK := n3_
 have HB := n4_
 clear n0_ n1_ n2_ n3_ n4_
 refine start_ (n := 12) (S := fun w' => w'.cell? ⟨gb186, 0, none⟩ = some (.int .i64 a0_0) ∧ w'.cell? ⟨gb186, 1, none⟩ = some (.slice Ao8 l0_1.length co8)) (ds := []) #[false, false, false, false, false, false, false, false, false, false, false, false] (by kernel_rfl) rfl rfl ⟨(Yd BK186.out 0).trans rfl, (Yd BK186.out 1).trans rfl⟩ (fun hHeld => ?_); refine with_tabW spec_l7Or.tab1 spec_l7Or.bits1 (fun HT_ HW_ => ?_)
 generalize w10.drew = w11 at HO0_1 BK186 BK187 HK HB hHeld ⊢
 refine pure_ (i := 1) (N := some 12) (v := ?_) (a' := ?_) #[false, true, false, false, false, false, false, false, false, false, false, false] rfl rfl (any_of HT_.out (by kernel_rfl)) (fun _ _ _ h => h) (Or.inl ⟨by rfl, ?_⟩) ?_ ?_
 rotate_left
 ·intro w'
  go_simp
  with_reducible rfl
 rotate_left
 ·simp only [Act.put, List.setIfInBounds_toArray, List.set_cons_zero, List.set_cons_succ, i64_w, i32_w]
  rfl
 refine pure_ (i := 3) (N := some 14) (v := ?_) (a' := ?_) #[false, true, false, true, false, false, false, false, false, false, false, false] rfl rfl (any_of HT_.out (by kernel_rfl)) (fun _ _ _ h => h) (Or.inl ⟨by rfl, ?_⟩) ?_ ?_
 rotate_left
 ·intro w'
  go_simp
  with_reducible rfl
 rotate_left
 ·simp only [Act.put, List.setIfInBounds_toArray, List.set_cons_zero, List.set_cons_succ, i64_w, i32_w]
  rfl
 refine take_ (i := 0) (N := some 11) (v := ?_) (a' := ?_) #[true, true, false, true, false, false, false, false, false, false, false, false] rfl rfl (take_ofW HT_.out HW_.out (by kernel_rfl)) (fun _ _ _ h => h) (Or.inl ⟨by rfl, ?_⟩) hHeld ?_ ?_
 rotate_left
 ·rintro w' ⟨s0, s1⟩
  go_simp
  with_reducible rfl
 rotate_left
 ·simp only [Act.put, List.setIfInBounds_toArray, List.set_cons_zero, List.set_cons_succ, i64_w, i32_w]
  rfl
 refine join_ (σ := Value × Nat) 2 #[true, true, true, true, true, true, true, true, true, true, false, false] (fun s_ => [(13, .int .i64 t188), (15, .int .i64 t189), (16, .tuple #[.agg #[.int .i64 t190, s_.1], .int .i64 t194]), (8, .pointer (some ⟨s_.2, 0, none⟩)), (10, .tuple #[.agg #[.int .i64 t190, s_.1], .int .i64 t194]), (17, .agg #[.int .i64 t190, s_.1]), (18, .int .i64 t194)]) (fun s_ w' => (w'.cell? ⟨gb186, 0, none⟩ = some (.int .i64 a0_0) ∧ w'.cell? ⟨gb186, 1, none⟩ = some (.slice Ao8 l0_1.length co8)) ∧ (Kd.R k73 73 w' w0.heap.size (fun k_ => (P0_1_ k_ ∨ w.heap.size ≤ k_)) s_.1 t191) ∧ (w'.heap[gb186]? = some (.cells #[.int .i64 a0_0, .slice Ao8 l0_1.length co8] 36 (0, 0))) ∧ (w'.heap[gb187]? = some (.cells #[.int .i64 0, .slice none 0 0] 36 (0, 0))) ∧ (w'.heap[s_.2]? = some (.cells #[.int .i64 0, .slice none 0 0] 36 (0, 0))) ∧ (w.heap.size ≤ s_.2) ∧ (w0.heap.size ≤ s_.2) ∧ (gb186 ≠ s_.2) ∧ (s_.2 ≠ gb186) ∧ (gb187 ≠ s_.2) ∧ (s_.2 ≠ gb187) ∧ (Kept w w' (fun k_ => P0_1_ k_)) ∧ (Below w0.heap.size w0 w')) ?_ ?_
 rotate_left
 ·intro hCont
  refine two_ (i := 2) (j := 9) (Ni := some 13) (Nj := some 8) #[true, true, true, true, false, false, false, false, false, false, false, false] #[true, true, false, true, false, false, false, false, false, true, false, false] rfl rfl rfl rfl (two_of HT_.out (by kernel_rfl)) (by decide) (by decide) (fun K hK => ?_) (fun K hK => ?_)
  ·skip
   refine goes_ Try.func69 (by kernel_rfl) rfl #[.int .i64 a1] (by rfl) rfl rfl (by (try simp only [List.map_toArray, List.map_cons, List.map_nil]); first | done | rfl | (simp only [List.length_drop, List.length_take]; rfl)) ?_
   with_reducible refine (spec_l7Not.calls a1 t188 _ A4.out).mono ?_
   rintro e w' ⟨rfl, ⟨nd, rfl⟩⟩
   refine ⟨_, rfl, ?_⟩
   refine hK.out _ _ ⟨(Yd BK186.out 0).trans rfl, (Yd BK186.out 1).trans rfl⟩ (fun hHeld => ?_)
   clear hK K
   refine norm_ (a' := ?_) ?_ ?_
   rotate_left
   ·show Act.put _ (some 13) _ = _
    simp only [Act.put, List.setIfInBounds_toArray, List.set_cons_zero, List.set_cons_succ, i64_w, i32_w]
    rfl
   refine two_ (i := 4) (j := 9) (Ni := some 15) (Nj := some 8) #[true, true, true, true, true, false, false, false, false, false, false, false] #[true, true, true, true, false, false, false, false, false, true, false, false] rfl rfl rfl rfl (two_of HT_.out (by kernel_rfl)) (by decide) (by decide) (fun K hK => ?_) (fun K hK => ?_)
   ·skip
    refine goes_ Try.func69 (by kernel_rfl) rfl #[.int .i64 a2] (by rfl) rfl rfl (by (try simp only [List.map_toArray, List.map_cons, List.map_nil]); first | done | rfl | (simp only [List.length_drop, List.length_take]; rfl)) ?_
    with_reducible refine (spec_l7Not.calls a2 t189 _ A5.out).mono ?_
    rintro e w' ⟨rfl, ⟨nd, rfl⟩⟩
    refine ⟨_, rfl, ?_⟩
    refine hK.out _ _ ⟨(Yd BK186.out 0).trans rfl, (Yd BK186.out 1).trans rfl⟩ (fun hHeld => ?_)
    clear hK K
    refine norm_ (a' := ?_) ?_ ?_
    rotate_left
    ·show Act.put _ (some 15) _ = _
     simp only [Act.put, List.setIfInBounds_toArray, List.set_cons_zero, List.set_cons_succ, i64_w, i32_w]
     rfl
    refine two_ (i := 5) (j := 9) (Ni := some 16) (Nj := some 8) #[true, true, true, true, true, true, false, false, false, false, false, false] #[true, true, true, true, true, false, false, false, false, true, false, false] rfl rfl rfl rfl (two_of HT_.out (by kernel_rfl)) (by decide) (by decide) (fun K hK => ?_) (fun K hK => ?_)
    ·skip
     refine goes_ Try.func38 (by kernel_rfl) rfl #[.agg #[.int .i64 a0_0, .slice Ao8 l0_1.length co8], .int .i64 t188, .int .i64 t189] (by rfl) rfl rfl (by (try simp only [List.map_toArray, List.map_cons, List.map_nil]); first | done | rfl | (simp only [List.length_drop, List.length_take]; rfl)) ?_
     with_reducible refine (spec_l7And.calls k a0_0 (fun k_ => some k_ = (.slice Ao8 l0_1.length co8 : Value).ownBlock) (.slice Ao8 l0_1.length co8) l0_1 t188 t189 t190 t191 t194 w0 _ ?side1 ?side2 A6.out).mono ?_
     (case side1 => repeat (first | (with_reducible first | exact HB.out | apply Yf | apply Yg | apply Yh | refine Yi ?_ GE186.out | refine Yi ?_ GE187.out) | exact HB.out))
     (case side2 => exact Kd.R_tight rfl HO0_1.out)
     rintro e w12 ⟨v192, rfl, ho0, hb, hkp⟩
     refine ⟨_, rfl, ?_⟩
     have n0_ := Yj (blk_kept (by (with_reducible repeat (first | refine Ya ?_ _ | refine Yb ?_ | refine Yc ?_ _)); exact BK186.out) hkp (fun hs_ => (fun e_ => (Kd.R_ne HO0_1.out BK186.out (by decide)) e_) hs_))
     have n1_ := Yj (blk_kept (by (with_reducible repeat (first | refine Ya ?_ _ | refine Yb ?_ | refine Yc ?_ _)); exact BK187.out) hkp (fun hs_ => (fun e_ => (Kd.R_ne HO0_1.out BK187.out (by decide)) e_) hs_))
     have n2_ := Yj (Kd.R_mono (ok' := fun k_ => (P0_1_ k_ ∨ w.heap.size ≤ k_)) ho0 (fun k_ hk_ => Or.elim hk_ (fun hs_ => (HO0_1.out.1 k_ (hs_).symm)) (fun hn_ => (.inr (Nat.le_trans (by first | exact HK.out.1 | exact (show Kept w _ (fun k_ => P0_1_ k_) from by repeat (first | (with_reducible first | exact HK.out | apply Kept.alloc | apply Kept.drewN | apply Kept.drew | refine Kept.setCell ?_ (.inr GW186.out) _ | refine Kept.setCell ?_ (.inr GW187.out) _) | exact HK.out)).1) hn_)))))
     have n3_ := Yj (Kept.then_ (S := (fun k_ => P0_1_ k_)) (by repeat (first | (with_reducible first | exact HK.out | apply Kept.alloc | apply Kept.drewN | apply Kept.drew | refine Kept.setCell ?_ (.inr GW186.out) _ | refine Kept.setCell ?_ (.inr GW187.out) _) | exact HK.out)) hkp (fun k_ hs_ => (fun e_ => (HO0_1.out.1 k_ e_.symm)) hs_))
     have n4_ := Yj (hb)
     clear BK186
     clear BK187
     clear HK
     clear HB
     clear HO0_1
     have BK186 := n0_
     have BK187 := n1_
     have HO193 := n2_
     have HK := n3_
     have HB := n4_
     clear n0_ n1_ n2_ n3_ n4_
     (try clear hb)
     (try clear hkp)
     (try clear ho0)
     refine hK.out _ _ ⟨(Yd BK186.out 0).trans rfl, (Yd BK186.out 1).trans rfl⟩ (fun hHeld => ?_)
     clear hK K
     refine norm_ (a' := ?_) ?_ ?_
     rotate_left
     ·show Act.put _ (some 16) _ = _
      simp only [Act.put, List.setIfInBounds_toArray, List.set_cons_zero, List.set_cons_succ, i64_w, i32_w]
      rfl
     refine pure_ (i := 6) (N := some 10) (v := ?_) (a' := ?_) #[true, true, true, true, true, true, true, false, false, false, false, false] rfl rfl (any_of HT_.out (by kernel_rfl)) (fun _ _ _ h => h) (Or.inl ⟨by rfl, ?_⟩) ?_ ?_
     rotate_left
     ·intro w'
      go_simp
      with_reducible rfl
     rotate_left
     ·simp only [Act.put, List.setIfInBounds_toArray, List.set_cons_zero, List.set_cons_succ, i64_w, i32_w]
      rfl
     refine pure_ (i := 7) (N := some 17) (v := ?_) (a' := ?_) #[true, true, true, true, true, true, true, true, false, false, false, false] rfl rfl (any_of HT_.out (by kernel_rfl)) (fun _ _ _ h => h) (Or.inl ⟨by rfl, ?_⟩) ?_ ?_
     rotate_left
     ·intro w'
      go_simp
      with_reducible rfl
     rotate_left
     ·simp only [Act.put, List.setIfInBounds_toArray, List.set_cons_zero, List.set_cons_succ, i64_w, i32_w]
      rfl
     refine pure_ (i := 8) (N := some 18) (v := ?_) (a' := ?_) #[true, true, true, true, true, true, true, true, true, false, false, false] rfl rfl (any_of HT_.out (by kernel_rfl)) (fun _ _ _ h => h) (Or.inl ⟨by rfl, ?_⟩) ?_ ?_
     rotate_left
     ·intro w'
      go_simp
      with_reducible rfl
     rotate_left
     ·simp only [Act.put, List.setIfInBounds_toArray, List.set_cons_zero, List.set_cons_succ, i64_w, i32_w]
      rfl
     refine one_ (i := 9) (N := some 8) #[true, true, true, true, true, true, true, true, true, true, false, false] rfl rfl (one_of HT_.out (by kernel_rfl)) (by decide) (fun K hK => ?_)
     refine box_step ?hg (N := 8) ?hd (cs := #[.int .i64 0, .slice none 0 0]) (t := 36) ?hr ?_; (case hd => rfl); (case hg => rfl); (case hr => first | (go_simp; done) | (go_simp; rfl))
     intro gb195 hg w13 hbox hb
     have n0_ := Yj (Kd.R_below (by (with_reducible repeat (first | apply Kd.R_alloc | apply Kd.R_drewN | apply Kd.R_drew)); exact HO193.out) hb)
     have n1_ := Yj (blk_below (g := gb186) (o := .cells #[.int .i64 a0_0, .slice Ao8 l0_1.length co8] 36 (0, 0)) (by (with_reducible repeat (first | refine Ya ?_ _ | refine Yb ?_ | refine Yc ?_ _)); exact BK186.out) hb)
     have n2_ := Yj (blk_below (g := gb187) (o := .cells #[.int .i64 0, .slice none 0 0] 36 (0, 0)) (by (with_reducible repeat (first | refine Ya ?_ _ | refine Yb ?_ | refine Yc ?_ _)); exact BK187.out) hb)
     have n3_ := Yj (Kept.below (S := (fun k_ => P0_1_ k_)) (by repeat (first | (with_reducible first | exact HK.out | apply Kept.alloc | apply Kept.drewN | apply Kept.drew | refine Kept.setCell ?_ (.inr GW186.out) _ | refine Kept.setCell ?_ (.inr GW187.out) _) | exact HK.out)) hb)
     have n4_ := Yj (below_step (by repeat (first | (with_reducible first | exact HB.out | apply Yf | apply Yg | apply Yh | refine Yi ?_ GE186.out | refine Yi ?_ GE187.out) | exact HB.out)) hb)
     have n5_ := Yj (hbox)
     have n6_ := Yj ((by rw [hg]; exact (by first | exact HK.out.1 | exact (show Kept w _ (fun k_ => P0_1_ k_) from by repeat (first | (with_reducible first | exact HK.out | apply Kept.alloc | apply Kept.drewN | apply Kept.drew | refine Kept.setCell ?_ (.inr GW186.out) _ | refine Kept.setCell ?_ (.inr GW187.out) _) | exact HK.out)).1) : w.heap.size ≤ gb195))
     have n7_ := Yj ((by rw [hg]; exact (below_size (by repeat (first | (with_reducible first | exact HB.out | apply Yf | apply Yg | apply Yh | refine Yi ?_ GE186.out | refine Yi ?_ GE187.out) | exact HB.out))) : w0.heap.size ≤ gb195))
     have n8_ := Yj ((by rw [hg]; exact Nat.ne_of_lt (blk_lt (g := gb186) (o := .cells #[.int .i64 a0_0, .slice Ao8 l0_1.length co8] 36 (0, 0)) (by (with_reducible repeat (first | refine Ya ?_ _ | refine Yb ?_ | refine Yc ?_ _)); exact BK186.out)) : gb186 ≠ gb195))
     have n9_ := Yj ((by rw [hg]; exact Nat.ne_of_gt (blk_lt (g := gb186) (o := .cells #[.int .i64 a0_0, .slice Ao8 l0_1.length co8] 36 (0, 0)) (by (with_reducible repeat (first | refine Ya ?_ _ | refine Yb ?_ | refine Yc ?_ _)); exact BK186.out)) : gb195 ≠ gb186))
     have n10_ := Yj ((by rw [hg]; exact Nat.ne_of_lt (blk_lt (g := gb187) (o := .cells #[.int .i64 0, .slice none 0 0] 36 (0, 0)) (by (with_reducible repeat (first | refine Ya ?_ _ | refine Yb ?_ | refine Yc ?_ _)); exact BK187.out)) : gb187 ≠ gb195))
     have n11_ := Yj ((by rw [hg]; exact Nat.ne_of_gt (blk_lt (g := gb187) (o := .cells #[.int .i64 0, .slice none 0 0] 36 (0, 0)) (by (with_reducible repeat (first | refine Ya ?_ _ | refine Yb ?_ | refine Yc ?_ _)); exact BK187.out)) : gb195 ≠ gb187))
     clear HO193
     clear BK186
     clear BK187
     clear HK
     clear HB
     have HO193 := n0_
     have BK186 := n1_
     have BK187 := n2_
     have HK := n3_
     have HB := n4_
     have BK195 := n5_
     have GW195 := n6_
     have GE195 := n7_
     have NB186_195 := n8_
     have NB195_186 := n9_
     have NB187_195 := n10_
     have NB195_187 := n11_
     clear n0_ n1_ n2_ n3_ n4_ n5_ n6_ n7_ n8_ n9_ n10_ n11_
     clear hb hbox hg
     refine hK.out _ _ ⟨(Yd BK186.out 0).trans rfl, (Yd BK186.out 1).trans rfl⟩ (fun hHeld => ?_)
     clear hK K
     refine norm_ (a' := ?_) ?_ ?_
     rotate_left
     ·show Act.put _ (some 8) _ = _
      simp only [Act.put, List.setIfInBounds_toArray, List.set_cons_zero, List.set_cons_succ, i64_w, i32_w]
      rfl
     exact norm_ (by simp only [putAll, Act.put, List.setIfInBounds_toArray, List.set_cons_zero, List.set_cons_succ]) (hCont (v192, gb195) _ ⟨hHeld, (by (with_reducible repeat (first | apply Kd.R_alloc | apply Kd.R_drewN | apply Kd.R_drew)); exact HO193.out), (by (with_reducible repeat (first | refine Ya ?_ _ | refine Yb ?_ | refine Yc ?_ _)); exact BK186.out), (by (with_reducible repeat (first | refine Ya ?_ _ | refine Yb ?_ | refine Yc ?_ _)); exact BK187.out), (by (with_reducible repeat (first | refine Ya ?_ _ | refine Yb ?_ | refine Yc ?_ _)); exact BK195.out), GW195.out, GE195.out, NB186_195.out, NB195_186.out, NB187_195.out, NB195_187.out, (by repeat (first | (with_reducible first | exact HK.out | apply Kept.alloc | apply Kept.drewN | apply Kept.drew | refine Kept.setCell ?_ (.inr GW186.out) _ | refine Kept.setCell ?_ (.inr GW187.out) _ | refine Kept.setCell ?_ (.inr GW195.out) _) | exact HK.out)), (by repeat (first | (with_reducible first | exact HB.out | apply Yf | apply Yg | apply Yh | refine Yi ?_ GE186.out | refine Yi ?_ GE187.out | refine Yi ?_ GE195.out) | exact HB.out))⟩)
    ·skip
     refine box_step ?hg (N := 8) ?hd (cs := #[.int .i64 0, .slice none 0 0]) (t := 36) ?hr ?_; (case hd => rfl); (case hg => rfl); (case hr => first | (go_simp; done) | (go_simp; rfl))
     intro gb195 hg w12 hbox hb
     have n0_ := Yj (Kd.R_below (by (with_reducible repeat (first | apply Kd.R_alloc | apply Kd.R_drewN | apply Kd.R_drew)); exact HO0_1.out) hb)
     have n1_ := Yj (blk_below (g := gb186) (o := .cells #[.int .i64 a0_0, .slice Ao8 l0_1.length co8] 36 (0, 0)) (by (with_reducible repeat (first | refine Ya ?_ _ | refine Yb ?_ | refine Yc ?_ _)); exact BK186.out) hb)
     have n2_ := Yj (blk_below (g := gb187) (o := .cells #[.int .i64 0, .slice none 0 0] 36 (0, 0)) (by (with_reducible repeat (first | refine Ya ?_ _ | refine Yb ?_ | refine Yc ?_ _)); exact BK187.out) hb)
     have n3_ := Yj (Kept.below (S := (fun k_ => P0_1_ k_)) (by repeat (first | (with_reducible first | exact HK.out | apply Kept.alloc | apply Kept.drewN | apply Kept.drew | refine Kept.setCell ?_ (.inr GW186.out) _ | refine Kept.setCell ?_ (.inr GW187.out) _) | exact HK.out)) hb)
     have n4_ := Yj (below_step (by repeat (first | (with_reducible first | exact HB.out | apply Yf | apply Yg | apply Yh | refine Yi ?_ GE186.out | refine Yi ?_ GE187.out) | exact HB.out)) hb)
     have n5_ := Yj (hbox)
     have n6_ := Yj ((by rw [hg]; exact (by first | exact HK.out.1 | exact (show Kept w _ (fun k_ => P0_1_ k_) from by repeat (first | (with_reducible first | exact HK.out | apply Kept.alloc | apply Kept.drewN | apply Kept.drew | refine Kept.setCell ?_ (.inr GW186.out) _ | refine Kept.setCell ?_ (.inr GW187.out) _) | exact HK.out)).1) : w.heap.size ≤ gb195))
     have n7_ := Yj ((by rw [hg]; exact (below_size (by repeat (first | (with_reducible first | exact HB.out | apply Yf | apply Yg | apply Yh | refine Yi ?_ GE186.out | refine Yi ?_ GE187.out) | exact HB.out))) : w0.heap.size ≤ gb195))
     have n8_ := Yj ((by rw [hg]; exact Nat.ne_of_lt (blk_lt (g := gb186) (o := .cells #[.int .i64 a0_0, .slice Ao8 l0_1.length co8] 36 (0, 0)) (by (with_reducible repeat (first | refine Ya ?_ _ | refine Yb ?_ | refine Yc ?_ _)); exact BK186.out)) : gb186 ≠ gb195))
     have n9_ := Yj ((by rw [hg]; exact Nat.ne_of_gt (blk_lt (g := gb186) (o := .cells #[.int .i64 a0_0, .slice Ao8 l0_1.length co8] 36 (0, 0)) (by (with_reducible repeat (first | refine Ya ?_ _ | refine Yb ?_ | refine Yc ?_ _)); exact BK186.out)) : gb195 ≠ gb186))
     have n10_ := Yj ((by rw [hg]; exact Nat.ne_of_lt (blk_lt (g := gb187) (o := .cells #[.int .i64 0, .slice none 0 0] 36 (0, 0)) (by (with_reducible repeat (first | refine Ya ?_ _ | refine Yb ?_ | refine Yc ?_ _)); exact BK187.out)) : gb187 ≠ gb195))
     have n11_ := Yj ((by rw [hg]; exact Nat.ne_of_gt (blk_lt (g := gb187) (o := .cells #[.int .i64 0, .slice none 0 0] 36 (0, 0)) (by (with_reducible repeat (first | refine Ya ?_ _ | refine Yb ?_ | refine Yc ?_ _)); exact BK187.out)) : gb195 ≠ gb187))
     clear HO0_1
     clear BK186
     clear BK187
     clear HK
     clear HB
     have HO0_1 := n0_
     have BK186 := n1_
     have BK187 := n2_
     have HK := n3_
     have HB := n4_
     have BK195 := n5_
     have GW195 := n6_
     have GE195 := n7_
     have NB186_195 := n8_
     have NB195_186 := n9_
     have NB187_195 := n10_
     have NB195_187 := n11_
     clear n0_ n1_ n2_ n3_ n4_ n5_ n6_ n7_ n8_ n9_ n10_ n11_
     clear hb hbox hg
     refine hK.out _ _ ⟨(Yd BK186.out 0).trans rfl, (Yd BK186.out 1).trans rfl⟩ (fun hHeld => ?_)
     clear hK K
     refine norm_ (a' := ?_) ?_ ?_
     rotate_left
     ·show Act.put _ (some 8) _ = _
      simp only [Act.put, List.setIfInBounds_toArray, List.set_cons_zero, List.set_cons_succ, i64_w, i32_w]
      rfl
     refine one_ (i := 5) (N := some 16) #[true, true, true, true, true, true, false, false, false, true, false, false] rfl rfl (one_of HT_.out (by kernel_rfl)) (by decide) (fun K hK => ?_)
     refine goes_ Try.func38 (by kernel_rfl) rfl #[.agg #[.int .i64 a0_0, .slice Ao8 l0_1.length co8], .int .i64 t188, .int .i64 t189] (by rfl) rfl rfl (by (try simp only [List.map_toArray, List.map_cons, List.map_nil]); first | done | rfl | (simp only [List.length_drop, List.length_take]; rfl)) ?_
     with_reducible refine (spec_l7And.calls k a0_0 (fun k_ => some k_ = (.slice Ao8 l0_1.length co8 : Value).ownBlock) (.slice Ao8 l0_1.length co8) l0_1 t188 t189 t190 t191 t194 w0 _ ?side1 ?side2 A6.out).mono ?_
     (case side1 => repeat (first | (with_reducible first | exact HB.out | apply Yf | apply Yg | apply Yh | refine Yi ?_ GE186.out | refine Yi ?_ GE187.out | refine Yi ?_ GE195.out) | exact HB.out))
     (case side2 => exact Kd.R_tight rfl HO0_1.out)
     rintro e w13 ⟨v192, rfl, ho0, hb, hkp⟩
     refine ⟨_, rfl, ?_⟩
     have n0_ := Yj (blk_kept (by (with_reducible repeat (first | refine Ya ?_ _ | refine Yb ?_ | refine Yc ?_ _)); exact BK186.out) hkp (fun hs_ => (fun e_ => (Kd.R_ne HO0_1.out BK186.out (by decide)) e_) hs_))
     have n1_ := Yj (blk_kept (by (with_reducible repeat (first | refine Ya ?_ _ | refine Yb ?_ | refine Yc ?_ _)); exact BK187.out) hkp (fun hs_ => (fun e_ => (Kd.R_ne HO0_1.out BK187.out (by decide)) e_) hs_))
     have n2_ := Yj (blk_kept (by (with_reducible repeat (first | refine Ya ?_ _ | refine Yb ?_ | refine Yc ?_ _)); exact BK195.out) hkp (fun hs_ => (fun e_ => (Kd.R_ne HO0_1.out BK195.out (by decide)) e_) hs_))
     have n3_ := Yj (Kd.R_mono (ok' := fun k_ => (P0_1_ k_ ∨ w.heap.size ≤ k_)) ho0 (fun k_ hk_ => Or.elim hk_ (fun hs_ => (HO0_1.out.1 k_ (hs_).symm)) (fun hn_ => (.inr (Nat.le_trans (by first | exact HK.out.1 | exact (show Kept w _ (fun k_ => P0_1_ k_) from by repeat (first | (with_reducible first | exact HK.out | apply Kept.alloc | apply Kept.drewN | apply Kept.drew | refine Kept.setCell ?_ (.inr GW186.out) _ | refine Kept.setCell ?_ (.inr GW187.out) _ | refine Kept.setCell ?_ (.inr GW195.out) _) | exact HK.out)).1) hn_)))))
     have n4_ := Yj (Kept.then_ (S := (fun k_ => P0_1_ k_)) (by repeat (first | (with_reducible first | exact HK.out | apply Kept.alloc | apply Kept.drewN | apply Kept.drew | refine Kept.setCell ?_ (.inr GW186.out) _ | refine Kept.setCell ?_ (.inr GW187.out) _ | refine Kept.setCell ?_ (.inr GW195.out) _) | exact HK.out)) hkp (fun k_ hs_ => (fun e_ => (HO0_1.out.1 k_ e_.symm)) hs_))
     have n5_ := Yj (hb)
     clear BK186
     clear BK187
     clear BK195
     clear HK
     clear HB
     clear HO0_1
     have BK186 := n0_
     have BK187 := n1_
     have BK195 := n2_
     have HO193 := n3_
     have HK := n4_
     have HB := n5_
     clear n0_ n1_ n2_ n3_ n4_ n5_
     (try clear hb)
     (try clear hkp)
     (try clear ho0)
     refine hK.out _ _ ⟨(Yd BK186.out 0).trans rfl, (Yd BK186.out 1).trans rfl⟩ (fun hHeld => ?_)
     clear hK K
     refine norm_ (a' := ?_) ?_ ?_
     rotate_left
     ·show Act.put _ (some 16) _ = _
      simp only [Act.put, List.setIfInBounds_toArray, List.set_cons_zero, List.set_cons_succ, i64_w, i32_w]
      rfl
     refine pure_ (i := 6) (N := some 10) (v := ?_) (a' := ?_) #[true, true, true, true, true, true, true, false, false, true, false, false] rfl rfl (any_of HT_.out (by kernel_rfl)) (fun _ _ _ h => h) (Or.inl ⟨by rfl, ?_⟩) ?_ ?_
     rotate_left
     ·intro w'
      go_simp
      with_reducible rfl
     rotate_left
     ·simp only [Act.put, List.setIfInBounds_toArray, List.set_cons_zero, List.set_cons_succ, i64_w, i32_w]
      rfl
     refine pure_ (i := 7) (N := some 17) (v := ?_) (a' := ?_) #[true, true, true, true, true, true, true, true, false, true, false, false] rfl rfl (any_of HT_.out (by kernel_rfl)) (fun _ _ _ h => h) (Or.inl ⟨by rfl, ?_⟩) ?_ ?_
     rotate_left
     ·intro w'
      go_simp
      with_reducible rfl
     rotate_left
     ·simp only [Act.put, List.setIfInBounds_toArray, List.set_cons_zero, List.set_cons_succ, i64_w, i32_w]
      rfl
     refine pure_ (i := 8) (N := some 18) (v := ?_) (a' := ?_) #[true, true, true, true, true, true, true, true, true, true, false, false] rfl rfl (any_of HT_.out (by kernel_rfl)) (fun _ _ _ h => h) (Or.inl ⟨by rfl, ?_⟩) ?_ ?_
     rotate_left
     ·intro w'
      go_simp
      with_reducible rfl
     rotate_left
     ·simp only [Act.put, List.setIfInBounds_toArray, List.set_cons_zero, List.set_cons_succ, i64_w, i32_w]
      rfl
     exact norm_ (by simp only [putAll, Act.put, List.setIfInBounds_toArray, List.set_cons_zero, List.set_cons_succ]) (hCont (v192, gb195) _ ⟨hHeld, (by (with_reducible repeat (first | apply Kd.R_alloc | apply Kd.R_drewN | apply Kd.R_drew)); exact HO193.out), (by (with_reducible repeat (first | refine Ya ?_ _ | refine Yb ?_ | refine Yc ?_ _)); exact BK186.out), (by (with_reducible repeat (first | refine Ya ?_ _ | refine Yb ?_ | refine Yc ?_ _)); exact BK187.out), (by (with_reducible repeat (first | refine Ya ?_ _ | refine Yb ?_ | refine Yc ?_ _)); exact BK195.out), GW195.out, GE195.out, NB186_195.out, NB195_186.out, NB187_195.out, NB195_187.out, (by repeat (first | (with_reducible first | exact HK.out | apply Kept.alloc | apply Kept.drewN | apply Kept.drew | refine Kept.setCell ?_ (.inr GW186.out) _ | refine Kept.setCell ?_ (.inr GW187.out) _ | refine Kept.setCell ?_ (.inr GW195.out) _) | exact HK.out)), (by repeat (first | (with_reducible first | exact HB.out | apply Yf | apply Yg | apply Yh | refine Yi ?_ GE186.out | refine Yi ?_ GE187.out | refine Yi ?_ GE195.out) | exact HB.out))⟩)
   ·skip
    refine box_step ?hg (N := 8) ?hd (cs := #[.int .i64 0, .slice none 0 0]) (t := 36) ?hr ?_; (case hd => rfl); (case hg => rfl); (case hr => first | (go_simp; done) | (go_simp; rfl))
    intro gb195 hg w12 hbox hb
    have n0_ := Yj (Kd.R_below (by (with_reducible repeat (first | apply Kd.R_alloc | apply Kd.R_drewN | apply Kd.R_drew)); exact HO0_1.out) hb)
    have n1_ := Yj (blk_below (g := gb186) (o := .cells #[.int .i64 a0_0, .slice Ao8 l0_1.length co8] 36 (0, 0)) (by (with_reducible repeat (first | refine Ya ?_ _ | refine Yb ?_ | refine Yc ?_ _)); exact BK186.out) hb)
    have n2_ := Yj (blk_below (g := gb187) (o := .cells #[.int .i64 0, .slice none 0 0] 36 (0, 0)) (by (with_reducible repeat (first | refine Ya ?_ _ | refine Yb ?_ | refine Yc ?_ _)); exact BK187.out) hb)
    have n3_ := Yj (Kept.below (S := (fun k_ => P0_1_ k_)) (by repeat (first | (with_reducible first | exact HK.out | apply Kept.alloc | apply Kept.drewN | apply Kept.drew | refine Kept.setCell ?_ (.inr GW186.out) _ | refine Kept.setCell ?_ (.inr GW187.out) _) | exact HK.out)) hb)
    have n4_ := Yj (below_step (by repeat (first | (with_reducible first | exact HB.out | apply Yf | apply Yg | apply Yh | refine Yi ?_ GE186.out | refine Yi ?_ GE187.out) | exact HB.out)) hb)
    have n5_ := Yj (hbox)
    have n6_ := Yj ((by rw [hg]; exact (by first | exact HK.out.1 | exact (show Kept w _ (fun k_ => P0_1_ k_) from by repeat (first | (with_reducible first | exact HK.out | apply Kept.alloc | apply Kept.drewN | apply Kept.drew | refine Kept.setCell ?_ (.inr GW186.out) _ | refine Kept.setCell ?_ (.inr GW187.out) _) | exact HK.out)).1) : w.heap.size ≤ gb195))
    have n7_ := Yj ((by rw [hg]; exact (below_size (by repeat (first | (with_reducible first | exact HB.out | apply Yf | apply Yg | apply Yh | refine Yi ?_ GE186.out | refine Yi ?_ GE187.out) | exact HB.out))) : w0.heap.size ≤ gb195))
    have n8_ := Yj ((by rw [hg]; exact Nat.ne_of_lt (blk_lt (g := gb186) (o := .cells #[.int .i64 a0_0, .slice Ao8 l0_1.length co8] 36 (0, 0)) (by (with_reducible repeat (first | refine Ya ?_ _ | refine Yb ?_ | refine Yc ?_ _)); exact BK186.out)) : gb186 ≠ gb195))
    have n9_ := Yj ((by rw [hg]; exact Nat.ne_of_gt (blk_lt (g := gb186) (o := .cells #[.int .i64 a0_0, .slice Ao8 l0_1.length co8] 36 (0, 0)) (by (with_reducible repeat (first | refine Ya ?_ _ | refine Yb ?_ | refine Yc ?_ _)); exact BK186.out)) : gb195 ≠ gb186))
    have n10_ := Yj ((by rw [hg]; exact Nat.ne_of_lt (blk_lt (g := gb187) (o := .cells #[.int .i64 0, .slice none 0 0] 36 (0, 0)) (by (with_reducible repeat (first | refine Ya ?_ _ | refine Yb ?_ | refine Yc ?_ _)); exact BK187.out)) : gb187 ≠ gb195))
    have n11_ := Yj ((by rw [hg]; exact Nat.ne_of_gt (blk_lt (g := gb187) (o := .cells #[.int .i64 0, .slice none 0 0] 36 (0, 0)) (by (with_reducible repeat (first | refine Ya ?_ _ | refine Yb ?_ | refine Yc ?_ _)); exact BK187.out)) : gb195 ≠ gb187))
    clear HO0_1
    clear BK186
    clear BK187
    clear HK
    clear HB
    have HO0_1 := n0_
    have BK186 := n1_
    have BK187 := n2_
    have HK := n3_
    have HB := n4_
    have BK195 := n5_
    have GW195 := n6_
    have GE195 := n7_
    have NB186_195 := n8_
    have NB195_186 := n9_
    have NB187_195 := n10_
    have NB195_187 := n11_
    clear n0_ n1_ n2_ n3_ n4_ n5_ n6_ n7_ n8_ n9_ n10_ n11_
    clear hb hbox hg
    refine hK.out _ _ ⟨(Yd BK186.out 0).trans rfl, (Yd BK186.out 1).trans rfl⟩ (fun hHeld => ?_)
    clear hK K
    refine norm_ (a' := ?_) ?_ ?_
    rotate_left
    ·show Act.put _ (some 8) _ = _
     simp only [Act.put, List.setIfInBounds_toArray, List.set_cons_zero, List.set_cons_succ, i64_w, i32_w]
     rfl
    refine one_ (i := 4) (N := some 15) #[true, true, true, true, true, false, false, false, false, true, false, false] rfl rfl (one_of HT_.out (by kernel_rfl)) (by decide) (fun K hK => ?_)
    refine goes_ Try.func69 (by kernel_rfl) rfl #[.int .i64 a2] (by rfl) rfl rfl (by (try simp only [List.map_toArray, List.map_cons, List.map_nil]); first | done | rfl | (simp only [List.length_drop, List.length_take]; rfl)) ?_
    with_reducible refine (spec_l7Not.calls a2 t189 _ A5.out).mono ?_
    rintro e w' ⟨rfl, ⟨nd, rfl⟩⟩
    refine ⟨_, rfl, ?_⟩
    refine hK.out _ _ ⟨(Yd BK186.out 0).trans rfl, (Yd BK186.out 1).trans rfl⟩ (fun hHeld => ?_)
    clear hK K
    refine norm_ (a' := ?_) ?_ ?_
    rotate_left
    ·show Act.put _ (some 15) _ = _
     simp only [Act.put, List.setIfInBounds_toArray, List.set_cons_zero, List.set_cons_succ, i64_w, i32_w]
     rfl
    refine one_ (i := 5) (N := some 16) #[true, true, true, true, true, true, false, false, false, true, false, false] rfl rfl (one_of HT_.out (by kernel_rfl)) (by decide) (fun K hK => ?_)
    refine goes_ Try.func38 (by kernel_rfl) rfl #[.agg #[.int .i64 a0_0, .slice Ao8 l0_1.length co8], .int .i64 t188, .int .i64 t189] (by rfl) rfl rfl (by (try simp only [List.map_toArray, List.map_cons, List.map_nil]); first | done | rfl | (simp only [List.length_drop, List.length_take]; rfl)) ?_
    with_reducible refine (spec_l7And.calls k a0_0 (fun k_ => some k_ = (.slice Ao8 l0_1.length co8 : Value).ownBlock) (.slice Ao8 l0_1.length co8) l0_1 t188 t189 t190 t191 t194 w0 _ ?side1 ?side2 A6.out).mono ?_
    (case side1 => repeat (first | (with_reducible first | exact HB.out | apply Yf | apply Yg | apply Yh | refine Yi ?_ GE186.out | refine Yi ?_ GE187.out | refine Yi ?_ GE195.out) | exact HB.out))
    (case side2 => exact Kd.R_tight rfl HO0_1.out)
    rintro e w13 ⟨v192, rfl, ho0, hb, hkp⟩
    refine ⟨_, rfl, ?_⟩
    have n0_ := Yj (blk_kept (by (with_reducible repeat (first | refine Ya ?_ _ | refine Yb ?_ | refine Yc ?_ _)); exact BK186.out) hkp (fun hs_ => (fun e_ => (Kd.R_ne HO0_1.out BK186.out (by decide)) e_) hs_))
    have n1_ := Yj (blk_kept (by (with_reducible repeat (first | refine Ya ?_ _ | refine Yb ?_ | refine Yc ?_ _)); exact BK187.out) hkp (fun hs_ => (fun e_ => (Kd.R_ne HO0_1.out BK187.out (by decide)) e_) hs_))
    have n2_ := Yj (blk_kept (by (with_reducible repeat (first | refine Ya ?_ _ | refine Yb ?_ | refine Yc ?_ _)); exact BK195.out) hkp (fun hs_ => (fun e_ => (Kd.R_ne HO0_1.out BK195.out (by decide)) e_) hs_))
    have n3_ := Yj (Kd.R_mono (ok' := fun k_ => (P0_1_ k_ ∨ w.heap.size ≤ k_)) ho0 (fun k_ hk_ => Or.elim hk_ (fun hs_ => (HO0_1.out.1 k_ (hs_).symm)) (fun hn_ => (.inr (Nat.le_trans (by first | exact HK.out.1 | exact (show Kept w _ (fun k_ => P0_1_ k_) from by repeat (first | (with_reducible first | exact HK.out | apply Kept.alloc | apply Kept.drewN | apply Kept.drew | refine Kept.setCell ?_ (.inr GW186.out) _ | refine Kept.setCell ?_ (.inr GW187.out) _ | refine Kept.setCell ?_ (.inr GW195.out) _) | exact HK.out)).1) hn_)))))
    have n4_ := Yj (Kept.then_ (S := (fun k_ => P0_1_ k_)) (by repeat (first | (with_reducible first | exact HK.out | apply Kept.alloc | apply Kept.drewN | apply Kept.drew | refine Kept.setCell ?_ (.inr GW186.out) _ | refine Kept.setCell ?_ (.inr GW187.out) _ | refine Kept.setCell ?_ (.inr GW195.out) _) | exact HK.out)) hkp (fun k_ hs_ => (fun e_ => (HO0_1.out.1 k_ e_.symm)) hs_))
    have n5_ := Yj (hb)
    clear BK186
    clear BK187
    clear BK195
    clear HK
    clear HB
    clear HO0_1
    have BK186 := n0_
    have BK187 := n1_
    have BK195 := n2_
    have HO193 := n3_
    have HK := n4_
    have HB := n5_
    clear n0_ n1_ n2_ n3_ n4_ n5_
    (try clear hb)
    (try clear hkp)
    (try clear ho0)
    refine hK.out _ _ ⟨(Yd BK186.out 0).trans rfl, (Yd BK186.out 1).trans rfl⟩ (fun hHeld => ?_)
    clear hK K
    refine norm_ (a' := ?_) ?_ ?_
    rotate_left
    ·show Act.put _ (some 16) _ = _
     simp only [Act.put, List.setIfInBounds_toArray, List.set_cons_zero, List.set_cons_succ, i64_w, i32_w]
     rfl
    refine pure_ (i := 6) (N := some 10) (v := ?_) (a' := ?_) #[true, true, true, true, true, true, true, false, false, true, false, false] rfl rfl (any_of HT_.out (by kernel_rfl)) (fun _ _ _ h => h) (Or.inl ⟨by rfl, ?_⟩) ?_ ?_
    rotate_left
    ·intro w'
     go_simp
     with_reducible rfl
    rotate_left
    ·simp only [Act.put, List.setIfInBounds_toArray, List.set_cons_zero, List.set_cons_succ, i64_w, i32_w]
     rfl
    refine pure_ (i := 7) (N := some 17) (v := ?_) (a' := ?_) #[true, true, true, true, true, true, true, true, false, true, false, false] rfl rfl (any_of HT_.out (by kernel_rfl)) (fun _ _ _ h => h) (Or.inl ⟨by rfl, ?_⟩) ?_ ?_
    rotate_left
    ·intro w'
     go_simp
     with_reducible rfl
    rotate_left
    ·simp only [Act.put, List.setIfInBounds_toArray, List.set_cons_zero, List.set_cons_succ, i64_w, i32_w]
     rfl
    refine pure_ (i := 8) (N := some 18) (v := ?_) (a' := ?_) #[true, true, true, true, true, true, true, true, true, true, false, false] rfl rfl (any_of HT_.out (by kernel_rfl)) (fun _ _ _ h => h) (Or.inl ⟨by rfl, ?_⟩) ?_ ?_
    rotate_left
    ·intro w'
     go_simp
     with_reducible rfl
    rotate_left
    ·simp only [Act.put, List.setIfInBounds_toArray, List.set_cons_zero, List.set_cons_succ, i64_w, i32_w]
     rfl
    exact norm_ (by simp only [putAll, Act.put, List.setIfInBounds_toArray, List.set_cons_zero, List.set_cons_succ]) (hCont (v192, gb195) _ ⟨hHeld, (by (with_reducible repeat (first | apply Kd.R_alloc | apply Kd.R_drewN | apply Kd.R_drew)); exact HO193.out), (by (with_reducible repeat (first | refine Ya ?_ _ | refine Yb ?_ | refine Yc ?_ _)); exact BK186.out), (by (with_reducible repeat (first | refine Ya ?_ _ | refine Yb ?_ | refine Yc ?_ _)); exact BK187.out), (by (with_reducible repeat (first | refine Ya ?_ _ | refine Yb ?_ | refine Yc ?_ _)); exact BK195.out), GW195.out, GE195.out, NB186_195.out, NB195_186.out, NB187_195.out, NB195_187.out, (by repeat (first | (with_reducible first | exact HK.out | apply Kept.alloc | apply Kept.drewN | apply Kept.drew | refine Kept.setCell ?_ (.inr GW186.out) _ | refine Kept.setCell ?_ (.inr GW187.out) _ | refine Kept.setCell ?_ (.inr GW195.out) _) | exact HK.out)), (by repeat (first | (with_reducible first | exact HB.out | apply Yf | apply Yg | apply Yh | refine Yi ?_ GE186.out | refine Yi ?_ GE187.out | refine Yi ?_ GE195.out) | exact HB.out))⟩)
  ·skip
   refine box_step ?hg (N := 8) ?hd (cs := #[.int .i64 0, .slice none 0 0]) (t := 36) ?hr ?_; (case hd => rfl); (case hg => rfl); (case hr => first | (go_simp; done) | (go_simp; rfl))
   intro gb195 hg w12 hbox hb
   have n0_ := Yj (Kd.R_below (by (with_reducible repeat (first | apply Kd.R_alloc | apply Kd.R_drewN | apply Kd.R_drew)); exact HO0_1.out) hb)
   have n1_ := Yj (blk_below (g := gb186) (o := .cells #[.int .i64 a0_0, .slice Ao8 l0_1.length co8] 36 (0, 0)) (by (with_reducible repeat (first | refine Ya ?_ _ | refine Yb ?_ | refine Yc ?_ _)); exact BK186.out) hb)
   have n2_ := Yj (blk_below (g := gb187) (o := .cells #[.int .i64 0, .slice none 0 0] 36 (0, 0)) (by (with_reducible repeat (first | refine Ya ?_ _ | refine Yb ?_ | refine Yc ?_ _)); exact BK187.out) hb)
   have n3_ := Yj (Kept.below (S := (fun k_ => P0_1_ k_)) (by repeat (first | (with_reducible first | exact HK.out | apply Kept.alloc | apply Kept.drewN | apply Kept.drew | refine Kept.setCell ?_ (.inr GW186.out) _ | refine Kept.setCell ?_ (.inr GW187.out) _) | exact HK.out)) hb)
   have n4_ := Yj (below_step (by repeat (first | (with_reducible first | exact HB.out | apply Yf | apply Yg | apply Yh | refine Yi ?_ GE186.out | refine Yi ?_ GE187.out) | exact HB.out)) hb)
   have n5_ := Yj (hbox)
   have n6_ := Yj ((by rw [hg]; exact (by first | exact HK.out.1 | exact (show Kept w _ (fun k_ => P0_1_ k_) from by repeat (first | (with_reducible first | exact HK.out | apply Kept.alloc | apply Kept.drewN | apply Kept.drew | refine Kept.setCell ?_ (.inr GW186.out) _ | refine Kept.setCell ?_ (.inr GW187.out) _) | exact HK.out)).1) : w.heap.size ≤ gb195))
   have n7_ := Yj ((by rw [hg]; exact (below_size (by repeat (first | (with_reducible first | exact HB.out | apply Yf | apply Yg | apply Yh | refine Yi ?_ GE186.out | refine Yi ?_ GE187.out) | exact HB.out))) : w0.heap.size ≤ gb195))
   have n8_ := Yj ((by rw [hg]; exact Nat.ne_of_lt (blk_lt (g := gb186) (o := .cells #[.int .i64 a0_0, .slice Ao8 l0_1.length co8] 36 (0, 0)) (by (with_reducible repeat (first | refine Ya ?_ _ | refine Yb ?_ | refine Yc ?_ _)); exact BK186.out)) : gb186 ≠ gb195))
   have n9_ := Yj ((by rw [hg]; exact Nat.ne_of_gt (blk_lt (g := gb186) (o := .cells #[.int .i64 a0_0, .slice Ao8 l0_1.length co8] 36 (0, 0)) (by (with_reducible repeat (first | refine Ya ?_ _ | refine Yb ?_ | refine Yc ?_ _)); exact BK186.out)) : gb195 ≠ gb186))
   have n10_ := Yj ((by rw [hg]; exact Nat.ne_of_lt (blk_lt (g := gb187) (o := .cells #[.int .i64 0, .slice none 0 0] 36 (0, 0)) (by (with_reducible repeat (first | refine Ya ?_ _ | refine Yb ?_ | refine Yc ?_ _)); exact BK187.out)) : gb187 ≠ gb195))
   have n11_ := Yj ((by rw [hg]; exact Nat.ne_of_gt (blk_lt (g := gb187) (o := .cells #[.int .i64 0, .slice none 0 0] 36 (0, 0)) (by (with_reducible repeat (first | refine Ya ?_ _ | refine Yb ?_ | refine Yc ?_ _)); exact BK187.out)) : gb195 ≠ gb187))
   clear HO0_1
   clear BK186
   clear BK187
   clear HK
   clear HB
   have HO0_1 := n0_
   have BK186 := n1_
   have BK187 := n2_
   have HK := n3_
   have HB := n4_
   have BK195 := n5_
   have GW195 := n6_
   have GE195 := n7_
   have NB186_195 := n8_
   have NB195_186 := n9_
   have NB187_195 := n10_
   have NB195_187 := n11_
   clear n0_ n1_ n2_ n3_ n4_ n5_ n6_ n7_ n8_ n9_ n10_ n11_
   clear hb hbox hg
   refine hK.out _ _ ⟨(Yd BK186.out 0).trans rfl, (Yd BK186.out 1).trans rfl⟩ (fun hHeld => ?_)
   clear hK K
   refine norm_ (a' := ?_) ?_ ?_
   rotate_left
   ·show Act.put _ (some 8) _ = _
    simp only [Act.put, List.setIfInBounds_toArray, List.set_cons_zero, List.set_cons_succ, i64_w, i32_w]
    rfl
   refine one_ (i := 2) (N := some 13) #[true, true, true, true, false, false, false, false, false, true, false, false] rfl rfl (one_of HT_.out (by kernel_rfl)) (by decide) (fun K hK => ?_)
   refine goes_ Try.func69 (by kernel_rfl) rfl #[.int .i64 a1] (by rfl) rfl rfl (by (try simp only [List.map_toArray, List.map_cons, List.map_nil]); first | done | rfl | (simp only [List.length_drop, List.length_take]; rfl)) ?_
   with_reducible refine (spec_l7Not.calls a1 t188 _ A4.out).mono ?_
   rintro e w' ⟨rfl, ⟨nd, rfl⟩⟩
   refine ⟨_, rfl, ?_⟩
   refine hK.out _ _ ⟨(Yd BK186.out 0).trans rfl, (Yd BK186.out 1).trans rfl⟩ (fun hHeld => ?_)
   clear hK K
   refine norm_ (a' := ?_) ?_ ?_
   rotate_left
   ·show Act.put _ (some 13) _ = _
    simp only [Act.put, List.setIfInBounds_toArray, List.set_cons_zero, List.set_cons_succ, i64_w, i32_w]
    rfl
   refine one_ (i := 4) (N := some 15) #[true, true, true, true, true, false, false, false, false, true, false, false] rfl rfl (one_of HT_.out (by kernel_rfl)) (by decide) (fun K hK => ?_)
   refine goes_ Try.func69 (by kernel_rfl) rfl #[.int .i64 a2] (by rfl) rfl rfl (by (try simp only [List.map_toArray, List.map_cons, List.map_nil]); first | done | rfl | (simp only [List.length_drop, List.length_take]; rfl)) ?_
   with_reducible refine (spec_l7Not.calls a2 t189 _ A5.out).mono ?_
   rintro e w' ⟨rfl, ⟨nd, rfl⟩⟩
   refine ⟨_, rfl, ?_⟩
   refine hK.out _ _ ⟨(Yd BK186.out 0).trans rfl, (Yd BK186.out 1).trans rfl⟩ (fun hHeld => ?_)
   clear hK K
   refine norm_ (a' := ?_) ?_ ?_
   rotate_left
   ·show Act.put _ (some 15) _ = _
    simp only [Act.put, List.setIfInBounds_toArray, List.set_cons_zero, List.set_cons_succ, i64_w, i32_w]
    rfl
   refine one_ (i := 5) (N := some 16) #[true, true, true, true, true, true, false, false, false, true, false, false] rfl rfl (one_of HT_.out (by kernel_rfl)) (by decide) (fun K hK => ?_)
   refine goes_ Try.func38 (by kernel_rfl) rfl #[.agg #[.int .i64 a0_0, .slice Ao8 l0_1.length co8], .int .i64 t188, .int .i64 t189] (by rfl) rfl rfl (by (try simp only [List.map_toArray, List.map_cons, List.map_nil]); first | done | rfl | (simp only [List.length_drop, List.length_take]; rfl)) ?_
   with_reducible refine (spec_l7And.calls k a0_0 (fun k_ => some k_ = (.slice Ao8 l0_1.length co8 : Value).ownBlock) (.slice Ao8 l0_1.length co8) l0_1 t188 t189 t190 t191 t194 w0 _ ?side1 ?side2 A6.out).mono ?_
   (case side1 => repeat (first | (with_reducible first | exact HB.out | apply Yf | apply Yg | apply Yh | refine Yi ?_ GE186.out | refine Yi ?_ GE187.out | refine Yi ?_ GE195.out) | exact HB.out))
   (case side2 => exact Kd.R_tight rfl HO0_1.out)
   rintro e w13 ⟨v192, rfl, ho0, hb, hkp⟩
   refine ⟨_, rfl, ?_⟩
   have n0_ := Yj (blk_kept (by (with_reducible repeat (first | refine Ya ?_ _ | refine Yb ?_ | refine Yc ?_ _)); exact BK186.out) hkp (fun hs_ => (fun e_ => (Kd.R_ne HO0_1.out BK186.out (by decide)) e_) hs_))
   have n1_ := Yj (blk_kept (by (with_reducible repeat (first | refine Ya ?_ _ | refine Yb ?_ | refine Yc ?_ _)); exact BK187.out) hkp (fun hs_ => (fun e_ => (Kd.R_ne HO0_1.out BK187.out (by decide)) e_) hs_))
   have n2_ := Yj (blk_kept (by (with_reducible repeat (first | refine Ya ?_ _ | refine Yb ?_ | refine Yc ?_ _)); exact BK195.out) hkp (fun hs_ => (fun e_ => (Kd.R_ne HO0_1.out BK195.out (by decide)) e_) hs_))
   have n3_ := Yj (Kd.R_mono (ok' := fun k_ => (P0_1_ k_ ∨ w.heap.size ≤ k_)) ho0 (fun k_ hk_ => Or.elim hk_ (fun hs_ => (HO0_1.out.1 k_ (hs_).symm)) (fun hn_ => (.inr (Nat.le_trans (by first | exact HK.out.1 | exact (show Kept w _ (fun k_ => P0_1_ k_) from by repeat (first | (with_reducible first | exact HK.out | apply Kept.alloc | apply Kept.drewN | apply Kept.drew | refine Kept.setCell ?_ (.inr GW186.out) _ | refine Kept.setCell ?_ (.inr GW187.out) _ | refine Kept.setCell ?_ (.inr GW195.out) _) | exact HK.out)).1) hn_)))))
   have n4_ := Yj (Kept.then_ (S := (fun k_ => P0_1_ k_)) (by repeat (first | (with_reducible first | exact HK.out | apply Kept.alloc | apply Kept.drewN | apply Kept.drew | refine Kept.setCell ?_ (.inr GW186.out) _ | refine Kept.setCell ?_ (.inr GW187.out) _ | refine Kept.setCell ?_ (.inr GW195.out) _) | exact HK.out)) hkp (fun k_ hs_ => (fun e_ => (HO0_1.out.1 k_ e_.symm)) hs_))
   have n5_ := Yj (hb)
   clear BK186
   clear BK187
   clear BK195
   clear HK
   clear HB
   clear HO0_1
   have BK186 := n0_
   have BK187 := n1_
   have BK195 := n2_
   have HO193 := n3_
   have HK := n4_
   have HB := n5_
   clear n0_ n1_ n2_ n3_ n4_ n5_
   (try clear hb)
   (try clear hkp)
   (try clear ho0)
   refine hK.out _ _ ⟨(Yd BK186.out 0).trans rfl, (Yd BK186.out 1).trans rfl⟩ (fun hHeld => ?_)
   clear hK K
   refine norm_ (a' := ?_) ?_ ?_
   rotate_left
   ·show Act.put _ (some 16) _ = _
    simp only [Act.put, List.setIfInBounds_toArray, List.set_cons_zero, List.set_cons_succ, i64_w, i32_w]
    rfl
   refine pure_ (i := 6) (N := some 10) (v := ?_) (a' := ?_) #[true, true, true, true, true, true, true, false, false, true, false, false] rfl rfl (any_of HT_.out (by kernel_rfl)) (fun _ _ _ h => h) (Or.inl ⟨by rfl, ?_⟩) ?_ ?_
   rotate_left
   ·intro w'
    go_simp
    with_reducible rfl
   rotate_left
   ·simp only [Act.put, List.setIfInBounds_toArray, List.set_cons_zero, List.set_cons_succ, i64_w, i32_w]
    rfl
   refine pure_ (i := 7) (N := some 17) (v := ?_) (a' := ?_) #[true, true, true, true, true, true, true, true, false, true, false, false] rfl rfl (any_of HT_.out (by kernel_rfl)) (fun _ _ _ h => h) (Or.inl ⟨by rfl, ?_⟩) ?_ ?_
   rotate_left
   ·intro w'
    go_simp
    with_reducible rfl
   rotate_left
   ·simp only [Act.put, List.setIfInBounds_toArray, List.set_cons_zero, List.set_cons_succ, i64_w, i32_w]
    rfl
   refine pure_ (i := 8) (N := some 18) (v := ?_) (a' := ?_) #[true, true, true, true, true, true, true, true, true, true, false, false] rfl rfl (any_of HT_.out (by kernel_rfl)) (fun _ _ _ h => h) (Or.inl ⟨by rfl, ?_⟩) ?_ ?_
   rotate_left
   ·intro w'
    go_simp
    with_reducible rfl
   rotate_left
   ·simp only [Act.put, List.setIfInBounds_toArray, List.set_cons_zero, List.set_cons_succ, i64_w, i32_w]
    rfl
   exact norm_ (by simp only [putAll, Act.put, List.setIfInBounds_toArray, List.set_cons_zero, List.set_cons_succ]) (hCont (v192, gb195) _ ⟨hHeld, (by (with_reducible repeat (first | apply Kd.R_alloc | apply Kd.R_drewN | apply Kd.R_drew)); exact HO193.out), (by (with_reducible repeat (first | refine Ya ?_ _ | refine Yb ?_ | refine Yc ?_ _)); exact BK186.out), (by (with_reducible repeat (first | refine Ya ?_ _ | refine Yb ?_ | refine Yc ?_ _)); exact BK187.out), (by (with_reducible repeat (first | refine Ya ?_ _ | refine Yb ?_ | refine Yc ?_ _)); exact BK195.out), GW195.out, GE195.out, NB186_195.out, NB195_186.out, NB187_195.out, NB195_187.out, (by repeat (first | (with_reducible first | exact HK.out | apply Kept.alloc | apply Kept.drewN | apply Kept.drew | refine Kept.setCell ?_ (.inr GW186.out) _ | refine Kept.setCell ?_ (.inr GW187.out) _ | refine Kept.setCell ?_ (.inr GW195.out) _) | exact HK.out)), (by repeat (first | (with_reducible first | exact HB.out | apply Yf | apply Yg | apply Yh | refine Yi ?_ GE186.out | refine Yi ?_ GE187.out | refine Yi ?_ GE195.out) | exact HB.out))⟩)
 rintro ⟨v192, gb195⟩ w14 ⟨hS_, h0_, h1_, h2_, h3_, h4_, h5_, h6_, h7_, h8_, h9_, h10_, h11_⟩
 have n0_ : Aside0 (Kd.R k73 73 w14 w0.heap.size (fun k_ => (P0_1_ k_ ∨ w.heap.size ≤ k_)) v192 t191) := ⟨h0_⟩
 have n1_ : Aside0 (w14.heap[gb186]? = some (.cells #[.int .i64 a0_0, .slice Ao8 l0_1.length co8] 36 (0, 0))) := ⟨h1_⟩
 have n2_ : Aside0 (w14.heap[gb187]? = some (.cells #[.int .i64 0, .slice none 0 0] 36 (0, 0))) := ⟨h2_⟩
 have n3_ : Aside0 (w14.heap[gb195]? = some (.cells #[.int .i64 0, .slice none 0 0] 36 (0, 0))) := ⟨h3_⟩
 have n4_ : Aside0 (w.heap.size ≤ gb195) := ⟨h4_⟩
 have n5_ : Aside0 (w0.heap.size ≤ gb195) := ⟨h5_⟩
 have n6_ : Aside0 (gb186 ≠ gb195) := ⟨h6_⟩
 have n7_ : Aside0 (gb195 ≠ gb186) := ⟨h7_⟩
 have n8_ : Aside0 (gb187 ≠ gb195) := ⟨h8_⟩
 have n9_ : Aside0 (gb195 ≠ gb187) := ⟨h9_⟩
 have n10_ : Aside0 (Kept w w14 (fun k_ => P0_1_ k_)) := ⟨h10_⟩
 have n11_ : Aside0 (Below w0.heap.size w0 w14) := ⟨h11_⟩
 clear HO0_1
 clear BK186
 clear BK187
 clear HK
 clear HB
 clear h0_ h1_ h2_ h3_ h4_ h5_ h6_ h7_ h8_ h9_ h10_ h11_
 have HO193 := n0_
 have BK186 := n1_
 have BK187 := n2_
 have BK195 := n3_
 have GW195 := n4_
 have GE195 := n5_
 have NB186_195 := n6_
 have NB195_186 := n7_
 have NB187_195 := n8_
 have NB195_187 := n9_
 have HK := n10_
 have HB := n11_
 clear n0_ n1_ n2_ n3_ n4_ n5_ n6_ n7_ n8_ n9_ n10_ n11_
 have hHeld : w14.cell? ⟨gb186, 0, none⟩ = some (.int .i64 a0_0) ∧ w14.cell? ⟨gb186, 1, none⟩ = some (.slice Ao8 l0_1.length co8) := hS_
 obtain ⟨Ao16, co16, eo16⟩ := Kd.R_slice HO193.out
 (first | subst eo16 | (injection eo16 with f1_ f2_ f3_; have f4_ := f1_.symm; have f5_ := f3_.symm; clear f1_ f2_ f3_; subst f4_; subst f5_))
 refine norm_ (a' := ?_) ?_ ?_
 rotate_left
 ·simp only [putAll, Act.put, List.setIfInBounds_toArray, List.set_cons_zero, List.set_cons_succ]
  rfl
 refine one_ (i := 10) (N := none) #[true, true, true, true, true, true, true, true, true, true, true, false] rfl rfl (one_of HT_.out (by kernel_rfl)) (by decide) (fun K hK => ?_)
 have hs15 : w14.cell? ⟨gb195, 0, none⟩ = some (.int .i64 0) := (Yd BK195.out 0).trans rfl
 have hfs15 := Ye BK195.out 0
 have hns15_0 := NB186_195.out
 have hns15_1 := NB187_195.out
 have hms15_0 := NB195_186.out
 have hms15_1 := NB195_187.out
 have hs17 : w14.cell? ⟨gb195, 1, none⟩ = some (.slice none 0 0) := (Yd BK195.out 1).trans rfl
 have hfs17 := Ye BK195.out 1
 have hns17_0 := NB186_195.out
 have hns17_1 := NB187_195.out
 have hms17_0 := NB195_186.out
 have hms17_1 := NB195_187.out
 refine skip_ (w1 := ?_) (by rfl) rfl ?_ ?_
 rotate_left
 ·go_simp
  rfl
 refine hK.out _ _ ⟨((cell_far (p := ⟨gb195, _, none⟩) NB186_195.out _).trans (((cell_far (p := ⟨gb195, _, none⟩) NB186_195.out _).trans (hHeld.1)))), ((cell_far (p := ⟨gb195, _, none⟩) NB186_195.out _).trans (((cell_far (p := ⟨gb195, _, none⟩) NB186_195.out _).trans (hHeld.2))))⟩ (fun hHeld => ?_)
 clear hK K
 refine pure_ (i := 11) (N := some 9) (v := ?_) (a' := ?_) #[true, true, true, true, true, true, true, true, true, true, true, true] rfl rfl (any_of HT_.out (by kernel_rfl)) (fun _ _ _ h => h) (Or.inl ⟨by rfl, ?_⟩) ?_ ?_
 rotate_left
 ·intro w'
  go_simp
  with_reducible rfl
 rotate_left
 ·simp only [Act.put, List.setIfInBounds_toArray, List.set_cons_zero, List.set_cons_succ, i64_w, i32_w]
  rfl
 refine done_ (done_of HT_.out (by kernel_rfl)) ?_
 try go_wp2
 have n0_ : Aside0 (Kd.R k73 73 ((w14.setCell ⟨gb195, 0, none⟩ (.int .i64 t190)).setCell ⟨gb195, 1, none⟩ (.slice Ao16 t191.length co16)) w0.heap.size (fun k_ => (P0_1_ k_ ∨ w.heap.size ≤ k_)) (.slice Ao16 t191.length co16) t191) := ⟨by (with_reducible repeat (first | apply Kd.R_alloc | apply Kd.R_drewN | apply Kd.R_drew)); exact Kd.R_mono (Kd.R_far (p := ⟨gb195, 1, none⟩) (Kd.R_far (p := ⟨gb195, 0, none⟩) (Kd.R_types HO193.out BK195.out (by decide)) (fun _ hk => hk.2) (.int .i64 t190)) (fun _ hk => hk.2) (.slice Ao16 t191.length co16)) (fun _ hk => hk.1)⟩
 have n1_ : Aside0 (((w14.setCell ⟨gb195, 0, none⟩ (.int .i64 t190)).setCell ⟨gb195, 1, none⟩ (.slice Ao16 t191.length co16)).heap[gb186]? = some (.cells #[.int .i64 a0_0, .slice Ao8 l0_1.length co8] 36 (0, 0))) := ⟨by (with_reducible repeat (first | refine Ya ?_ _ | refine Yb ?_ | refine Yc ?_ _)); refine blk_far ?_ NB186_195.out _; (with_reducible repeat (first | refine Ya ?_ _ | refine Yb ?_ | refine Yc ?_ _)); refine blk_far ?_ NB186_195.out _; (with_reducible repeat (first | refine Ya ?_ _ | refine Yb ?_ | refine Yc ?_ _)); exact BK186.out⟩
 have n2_ : Aside0 (((w14.setCell ⟨gb195, 0, none⟩ (.int .i64 t190)).setCell ⟨gb195, 1, none⟩ (.slice Ao16 t191.length co16)).heap[gb187]? = some (.cells #[.int .i64 0, .slice none 0 0] 36 (0, 0))) := ⟨by (with_reducible repeat (first | refine Ya ?_ _ | refine Yb ?_ | refine Yc ?_ _)); refine blk_far ?_ NB187_195.out _; (with_reducible repeat (first | refine Ya ?_ _ | refine Yb ?_ | refine Yc ?_ _)); refine blk_far ?_ NB187_195.out _; (with_reducible repeat (first | refine Ya ?_ _ | refine Yb ?_ | refine Yc ?_ _)); exact BK187.out⟩
 have n3_ : Aside0 (((w14.setCell ⟨gb195, 0, none⟩ (.int .i64 t190)).setCell ⟨gb195, 1, none⟩ (.slice Ao16 t191.length co16)).heap[gb195]? = some (.cells #[.int .i64 t190, .slice Ao16 t191.length co16] 36 (0, 0))) := ⟨by (with_reducible repeat (first | refine Ya ?_ _ | refine Yb ?_ | refine Yc ?_ _)); refine blk_put (cs := #[.int .i64 t190, .slice none 0 0]) ?_ 1 _ rfl; (with_reducible repeat (first | refine Ya ?_ _ | refine Yb ?_ | refine Yc ?_ _)); refine blk_put (cs := #[.int .i64 0, .slice none 0 0]) ?_ 0 _ rfl; (with_reducible repeat (first | refine Ya ?_ _ | refine Yb ?_ | refine Yc ?_ _)); exact BK195.out⟩
 have n4_ : Aside0 (Kept w ((w14.setCell ⟨gb195, 0, none⟩ (.int .i64 t190)).setCell ⟨gb195, 1, none⟩ (.slice Ao16 t191.length co16)) (fun k_ => P0_1_ k_)) := ⟨by repeat (first | (with_reducible first | exact HK.out | apply Kept.alloc | apply Kept.drewN | apply Kept.drew | refine Kept.setCell ?_ (.inr GW186.out) _ | refine Kept.setCell ?_ (.inr GW187.out) _ | refine Kept.setCell ?_ (.inr GW195.out) _) | exact HK.out)⟩
 have n5_ : Aside0 (Below w0.heap.size w0 ((w14.setCell ⟨gb195, 0, none⟩ (.int .i64 t190)).setCell ⟨gb195, 1, none⟩ (.slice Ao16 t191.length co16))) := ⟨by repeat (first | (with_reducible first | exact HB.out | apply Yf | apply Yg | apply Yh | refine Yi ?_ GE186.out | refine Yi ?_ GE187.out | refine Yi ?_ GE195.out) | exact HB.out)⟩
 (try clear HO193)
 (try clear BK186)
 (try clear BK187)
 (try clear BK195)
 (try clear HK)
 (try clear HB)
 generalize ((w14.setCell ⟨gb195, 0, none⟩ (.int .i64 t190)).setCell ⟨gb195, 1, none⟩ (.slice Ao16 t191.length co16)) = w18 at n0_ n1_ n2_ n3_ n4_ n5_ ⊢
 have HO193 := n0_
 have BK186 := n1_
 have BK187 := n2_
 have BK195 := n3_
 have HK := n4_
 have HB := n5_
 clear n0_ n1_ n2_ n3_ n4_ n5_
 have n0_ := Yj (Kd.R_drew HO193.out)
 have n1_ := Yj (Yb BK186.out)
 have n2_ := Yj (Yb BK187.out)
 have n3_ := Yj (Yb BK195.out)
 have n4_ := Yj (Kept.drew HK.out)
 have n5_ := Yj (Yh HB.out)
 clear HO193
 clear BK186
 clear BK187
 clear BK195
 clear HK
 clear HB
 have HO193 := n0_
 have BK186 := n1_
 have BK187 := n2_
 have BK195 := n3_
 have HK := n4_
 have HB := n5_
 clear n0_ n1_ n2_ n3_ n4_ n5_
 refine start_ (n := 5) (S := fun w' => w'.cell? ⟨gb195, 0, none⟩ = some (.int .i64 t190) ∧ w'.cell? ⟨gb195, 1, none⟩ = some (.slice Ao16 t191.length co16)) (ds := []) #[false, false, false, false, false] (by kernel_rfl) rfl rfl ⟨(Yd BK195.out 0).trans rfl, (Yd BK195.out 1).trans rfl⟩ (fun hHeld => ?_)
 generalize w18.drew = w19 at HO193 BK186 BK187 BK195 HK HB hHeld ⊢
 refine pure_ (i := 1) (N := some 20) (v := ?_) (a' := ?_) #[false, true, false, false, false] rfl rfl (by kernel_rfl) (fun _ _ _ h => h) (Or.inl ⟨by rfl, ?_⟩) ?_ ?_
 rotate_left
 ·intro w'
  go_simp
  with_reducible rfl
 rotate_left
 ·simp only [Act.put, List.setIfInBounds_toArray, List.set_cons_zero, List.set_cons_succ, i64_w, i32_w]
  rfl
 refine take_ (i := 0) (N := some 19) (v := ?_) (a' := ?_) #[true, true, false, false, false] rfl rfl (by kernel_rfl) (fun _ _ _ h => h) (Or.inl ⟨by rfl, ?_⟩) hHeld ?_ ?_
 rotate_left
 ·rintro w' ⟨s0, s1⟩
  go_simp
  with_reducible rfl
 rotate_left
 ·simp only [Act.put, List.setIfInBounds_toArray, List.set_cons_zero, List.set_cons_succ, i64_w, i32_w]
  rfl
 refine one_ (i := 2) (N := some 21) #[true, true, true, false, false] rfl rfl (by kernel_rfl) (by decide) (fun K hK => ?_)
 refine goes_ Try.func69 (by kernel_rfl) rfl #[.int .i64 t194] (by rfl) rfl rfl (by (try simp only [List.map_toArray, List.map_cons, List.map_nil]); first | done | rfl | (simp only [List.length_drop, List.length_take]; rfl)) ?_
 with_reducible refine (spec_l7Not.calls t194 t196 _ A7.out).mono ?_
 rintro e w' ⟨rfl, ⟨nd, rfl⟩⟩
 refine ⟨_, rfl, ?_⟩
 refine hK.out _ _ ⟨(Yd BK195.out 0).trans rfl, (Yd BK195.out 1).trans rfl⟩ (fun hHeld => ?_)
 clear hK K
 refine norm_ (a' := ?_) ?_ ?_
 rotate_left
 ·show Act.put _ (some 21) _ = _
  simp only [Act.put, List.setIfInBounds_toArray, List.set_cons_zero, List.set_cons_succ, i64_w, i32_w]
  rfl
 refine one_ (i := 3) (N := none) #[true, true, true, true, false] rfl rfl (by kernel_rfl) (by decide) (fun K hK => ?_)
 have hs20 : w19.cell? ⟨gb187, 0, none⟩ = some (.int .i64 0) := (Yd BK187.out 0).trans rfl
 have hfs20 := Ye BK187.out 0
 have hns20_0 := NB186_187.out
 have hns20_2 := NB195_187.out
 have hms20_0 := NB187_186.out
 have hms20_2 := NB187_195.out
 have hs21 : w19.cell? ⟨gb187, 1, none⟩ = some (.slice none 0 0) := (Yd BK187.out 1).trans rfl
 have hfs21 := Ye BK187.out 1
 have hns21_0 := NB186_187.out
 have hns21_2 := NB195_187.out
 have hms21_0 := NB187_186.out
 have hms21_2 := NB187_195.out
 refine skip_ (w1 := ?_) (by rfl) rfl ?_ ?_
 rotate_left
 ·go_simp
  rfl
 refine hK.out _ _ ⟨((cell_far (p := ⟨gb187, _, none⟩) NB195_187.out _).trans (((cell_far (p := ⟨gb187, _, none⟩) NB195_187.out _).trans (hHeld.1)))), ((cell_far (p := ⟨gb187, _, none⟩) NB195_187.out _).trans (((cell_far (p := ⟨gb187, _, none⟩) NB195_187.out _).trans (hHeld.2))))⟩ (fun hHeld => ?_)
 clear hK K
 refine pure_ (i := 4) (N := some 7) (v := ?_) (a' := ?_) #[true, true, true, true, true] rfl rfl (by kernel_rfl) (fun _ _ _ h => h) (Or.inl ⟨by rfl, ?_⟩) ?_ ?_
 rotate_left
 ·intro w'
  go_simp
  with_reducible rfl
 rotate_left
 ·simp only [Act.put, List.setIfInBounds_toArray, List.set_cons_zero, List.set_cons_succ, i64_w, i32_w]
  rfl
 refine done_ (by kernel_rfl) ?_
 try go_wp2
 refine bodyPost_ret (results_ct rfl _ _ gb187 36 #[.int .i64 t190, .slice Ao16 t191.length co16] (0, 0) _ rfl (by (with_reducible repeat (first | refine Ya ?_ _ | refine Yb ?_ | refine Yc ?_ _)); refine blk_put (cs := #[.int .i64 t190, .slice none 0 0]) ?_ 1 _ rfl; (with_reducible repeat (first | refine Ya ?_ _ | refine Yb ?_ | refine Yc ?_ _)); refine blk_put (cs := #[.int .i64 0, .slice none 0 0]) ?_ 0 _ rfl; (with_reducible repeat (first | refine Ya ?_ _ | refine Yb ?_ | refine Yc ?_ _)); exact BK187.out) Try.underlying36 rfl (by kernel_rfl)) rfl ?_
 exact ⟨_, by first | rfl | (simp [errW_none, errW_some] <;> rfl) | (simp [*, errW_none, errW_some] <;> rfl), by (with_reducible repeat (first | apply Kd.R_alloc | apply Kd.R_drewN | apply Kd.R_drew)); exact Kd.R_mono (Kd.R_far (p := ⟨gb187, 1, none⟩) (Kd.R_far (p := ⟨gb187, 0, none⟩) (Kd.R_types HO193.out BK187.out (by decide)) (fun _ hk => hk.2) (.int .i64 t190)) (fun _ hk => hk.2) (.slice Ao16 t191.length co16)) (fun _ hk => hk.1), by repeat (first | (with_reducible first | exact HB.out | apply Yf | apply Yg | apply Yh | refine Yi ?_ GE186.out | refine Yi ?_ GE187.out | refine Yi ?_ GE195.out) | exact HB.out), by repeat (first | (with_reducible first | exact HK.out | apply Kept.alloc | apply Kept.drewN | apply Kept.drew | refine Kept.setCell ?_ (.inr GW186.out) _ | refine Kept.setCell ?_ (.inr GW187.out) _ | refine Kept.setCell ?_ (.inr GW195.out) _) | exact HK.out)⟩

/-! ### spec_l7Pick: function 36 -/
def spec_l7Pick.f (a0_0 : Int) (l0_1 : List (S73)) (a1 : Int) (a2 : Int) (a3 : Int) : Option (Int × (List (S73)) × Int) := if a2 = a3 then (some (a0_0, l0_1, a2)) else (none)
set_option maxHeartbeats 8000000 in
set_option maxRecDepth 100000 in
theorem spec_l7Pick.calls (a0_0 : Int) (P0_1_ : Nat → Prop) (u9000_ : Value) (l0_1 : List (S73)) (a1 : Int) (a2 : Int) (a3 : Int) (r1 : Int) (r2 : List (S73)) (r3 : Int) (w0 w : World) (hB : Below w0.heap.size w0 w) (ho0_1 : Kd.R k73 73 w w0.heap.size P0_1_ u9000_ l0_1) (h : spec_l7Pick.f a0_0 l0_1 a1 a2 a3 = some (r1, r2, r3)) :
  Calls Try.prog 36 #[.agg #[.int .i64 a0_0, u9000_], .int .i64 a1, .int .i64 a2, .int .i64 a3] w fun e w' => ∃ v1_ : Value, e = .returned (.tuple #[.agg #[.int .i64 r1, v1_], .int .i64 r3]) ∧ Kd.R k73 73 w' w0.heap.size (fun k_ => (P0_1_ k_ ∨ w.heap.size ≤ k_)) v1_ r2 ∧ Below w0.heap.size w0 w' ∧ Kept w w' (fun k_ => P0_1_ k_) := by
 have hu36 := Try.underlying36
 have HO0_1 := Yj (show Kd.R k73 73 w w0.heap.size (fun k_ => (P0_1_ k_ ∨ w.heap.size ≤ k_)) u9000_ l0_1 from Kd.R_mono ho0_1 (fun k_ hk => (.inl hk)))
 have HK := Yj (Kept.refl w (fun k_ => P0_1_ k_))
 have HW0 := Yj hB.size
 have HB := Yj hB
 clear hB
 have H : (if a2 = a3 then (some (a0_0, l0_1, a2)) else (none)) = some (r1, r2, r3) := h
 clear h
 by_cases c5 : a2 = a3
 ·rw [if_pos c5] at H
  have c5b0 : (a2 == a3) = true := beq_iff_eq.mpr c5
  have c5b1 : (a2 != a3) = false := bne_eq_false_iff_eq.mpr c5
  clear c5
  simp only [Option.some.injEq, Prod.mk.injEq] at H
  obtain ⟨rfl, rfl, rfl⟩ := H
  obtain ⟨Ao6, co6, eo6⟩ := Kd.R_slice HO0_1.out
  subst eo6
  go_enter Try.func36, Try.ntmps36
  go_wp2_with (first | ((with_reducible refine gate_dst (N := 4) rfl ?_); refine box_event ?hg (N := 4) ?hd (cs := #[.int .i64 a0_0, .slice Ao6 l0_1.length co6]) (t := 36) ?hr ?_; (case hd => rfl); (case hg => rfl); (case hr => first | (go_simp; done) | (go_simp; rfl)); intro gb197 hg w7 hbox hb; have n0_ := Yj (Kd.R_below (by (with_reducible repeat (first | apply Kd.R_alloc | apply Kd.R_drewN | apply Kd.R_drew)); exact HO0_1.out) hb); have n1_ := Yj (Kept.below (S := (fun k_ => P0_1_ k_)) (by repeat (first | (with_reducible first | exact HK.out | apply Kept.alloc | apply Kept.drewN | apply Kept.drew) | exact HK.out)) hb); have n2_ := Yj (below_step (by repeat (first | (with_reducible first | exact HB.out | apply Yf | apply Yg | apply Yh) | exact HB.out)) hb); have n3_ := Yj (hbox); have n4_ := Yj ((by rw [hg]; exact (by first | exact HK.out.1 | exact (show Kept w _ (fun k_ => P0_1_ k_) from by repeat (first | (with_reducible first | exact HK.out | apply Kept.alloc | apply Kept.drewN | apply Kept.drew) | exact HK.out)).1) : w.heap.size ≤ gb197)); have n5_ := Yj ((by rw [hg]; exact (below_size (by repeat (first | (with_reducible first | exact HB.out | apply Yf | apply Yg | apply Yh) | exact HB.out))) : w0.heap.size ≤ gb197)); clear HO0_1; clear HK; clear HB; have HO0_1 := n0_; have HK := n1_; have HB := n2_; have BK197 := n3_; have GW197 := n4_; have GE197 := n5_; clear n0_ n1_ n2_ n3_ n4_ n5_; clear hb hbox hg) | ((with_reducible refine gate_dst (N := 8) rfl ?_); refine box_event ?hg (N := 8) ?hd (cs := #[.int .i64 0, .slice none 0 0]) (t := 36) ?hr ?_; (case hd => rfl); (case hg => rfl); (case hr => first | (go_simp; done) | (go_simp; rfl)); intro gb198 hg w8 hbox hb; have n0_ := Yj (Kd.R_below (by (with_reducible repeat (first | apply Kd.R_alloc | apply Kd.R_drewN | apply Kd.R_drew)); exact HO0_1.out) hb); have n1_ := Yj (blk_below (g := gb197) (o := .cells #[.int .i64 a0_0, .slice Ao6 l0_1.length co6] 36 (0, 0)) (by (with_reducible repeat (first | refine Ya ?_ _ | refine Yb ?_ | refine Yc ?_ _)); exact BK197.out) hb); have n2_ := Yj (Kept.below (S := (fun k_ => P0_1_ k_)) (by repeat (first | (with_reducible first | exact HK.out | apply Kept.alloc | apply Kept.drewN | apply Kept.drew | refine Kept.setCell ?_ (.inr GW197.out) _) | exact HK.out)) hb); have n3_ := Yj (below_step (by repeat (first | (with_reducible first | exact HB.out | apply Yf | apply Yg | apply Yh | refine Yi ?_ GE197.out) | exact HB.out)) hb); have n4_ := Yj (hbox); have n5_ := Yj ((by rw [hg]; exact (by first | exact HK.out.1 | exact (show Kept w _ (fun k_ => P0_1_ k_) from by repeat (first | (with_reducible first | exact HK.out | apply Kept.alloc | apply Kept.drewN | apply Kept.drew | refine Kept.setCell ?_ (.inr GW197.out) _) | exact HK.out)).1) : w.heap.size ≤ gb198)); have n6_ := Yj ((by rw [hg]; exact (below_size (by repeat (first | (with_reducible first | exact HB.out | apply Yf | apply Yg | apply Yh | refine Yi ?_ GE197.out) | exact HB.out))) : w0.heap.size ≤ gb198)); have n7_ := Yj ((by rw [hg]; exact Nat.ne_of_lt (blk_lt (g := gb197) (o := .cells #[.int .i64 a0_0, .slice Ao6 l0_1.length co6] 36 (0, 0)) (by (with_reducible repeat (first | refine Ya ?_ _ | refine Yb ?_ | refine Yc ?_ _)); exact BK197.out)) : gb197 ≠ gb198)); have n8_ := Yj ((by rw [hg]; exact Nat.ne_of_gt (blk_lt (g := gb197) (o := .cells #[.int .i64 a0_0, .slice Ao6 l0_1.length co6] 36 (0, 0)) (by (with_reducible repeat (first | refine Ya ?_ _ | refine Yb ?_ | refine Yc ?_ _)); exact BK197.out)) : gb198 ≠ gb197)); clear HO0_1; clear BK197; clear HK; clear HB; have HO0_1 := n0_; have BK197 := n1_; have HK := n2_; have HB := n3_; have BK198 := n4_; have GW198 := n5_; have GE198 := n6_; have NB197_198 := n7_; have NB198_197 := n8_; clear n0_ n1_ n2_ n3_ n4_ n5_ n6_ n7_ n8_; clear hb hbox hg; have hnb9 := NB197_198.out; have hnc9 := NB198_197.out; have hcz10_0 : w8.cell? ⟨gb197, 0, none⟩ = some (.int .i64 a0_0) := (Yd BK197.out 0).trans rfl; have hcz10_1 : w8.cell? ⟨gb197, 1, none⟩ = some (.slice Ao6 l0_1.length co6) := (Yd BK197.out 1).trans rfl; have hfz10_0 := Ye BK197.out 0; have hfz10_1 := Ye BK197.out 1; have hcz11_0 : w8.cell? ⟨gb198, 0, none⟩ = some (.int .i64 0) := (Yd BK198.out 0).trans rfl; have hcz11_1 : w8.cell? ⟨gb198, 1, none⟩ = some (.slice none 0 0) := (Yd BK198.out 1).trans rfl; have hfz11_0 := Ye BK198.out 0; have hfz11_1 := Ye BK198.out 1))
  refine bodyPost_ret (results_ct rfl _ _ gb198 36 #[.int .i64 a0_0, .slice Ao6 l0_1.length co6] (0, 0) _ rfl (by (with_reducible repeat (first | refine Ya ?_ _ | refine Yb ?_ | refine Yc ?_ _)); refine blk_put (cs := #[.int .i64 a0_0, .slice none 0 0]) ?_ 1 _ rfl; (with_reducible repeat (first | refine Ya ?_ _ | refine Yb ?_ | refine Yc ?_ _)); refine blk_put (cs := #[.int .i64 0, .slice none 0 0]) ?_ 0 _ rfl; (with_reducible repeat (first | refine Ya ?_ _ | refine Yb ?_ | refine Yc ?_ _)); exact BK198.out) Try.underlying36 rfl (by kernel_rfl)) rfl ?_
  exact ⟨_, by first | rfl | (simp [errW_none, errW_some] <;> rfl) | (simp [*, errW_none, errW_some] <;> rfl), by (with_reducible repeat (first | apply Kd.R_alloc | apply Kd.R_drewN | apply Kd.R_drew)); exact Kd.R_mono (Kd.R_far (p := ⟨gb198, 1, none⟩) (Kd.R_far (p := ⟨gb198, 0, none⟩) (Kd.R_types HO0_1.out BK198.out (by decide)) (fun _ hk => hk.2) (.int .i64 a0_0)) (fun _ hk => hk.2) (.slice Ao6 l0_1.length co6)) (fun _ hk => hk.1), by repeat (first | (with_reducible first | exact HB.out | apply Yf | apply Yg | apply Yh | refine Yi ?_ GE197.out | refine Yi ?_ GE198.out) | exact HB.out), by repeat (first | (with_reducible first | exact HK.out | apply Kept.alloc | apply Kept.drewN | apply Kept.drew | refine Kept.setCell ?_ (.inr GW197.out) _ | refine Kept.setCell ?_ (.inr GW198.out) _) | exact HK.out)⟩
 ·rw [if_neg c5] at H
  exact absurd H (by simp)

end Go.Proofs.Ythphgkhmeobadab.XFnSameEdges
