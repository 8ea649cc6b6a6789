/- Printed by a program of this session out of the translation: the Go functions that a law uses as plain Lean functions, with the proofs of their calls, or the law's row.
Conditions: those that each theorem states. -/
import Derived.Test.YtnidjlhbejifoaaXFnSameRunx0
import Derived.Test.YtnidjlhbejifoaaXFnSameRunx8
namespace Go.Proofs.Ytnidjlhbejifoaa.XFnSameRun
open Go.RowKit Go.Proofs.YtnidjlhbejifoaaW.PrintWords Go.Proofs.YtnidjlhbejifoaaW.PrintLast Go.Proofs.YtnidjlhbejifoaaW.PrintMore
attribute [local go_sem] max2_int max_two
set_option linter.unusedVariables false
set_option linter.unusedSimpArgs false

/-! ### spec_l2Use: function 35 -/
mutual
def spec_l2Use.l0 : Nat → List Int → List Int → Int → List (S51) → List (S59) → List (S54) → List Int → List (List (S54)) → Option (List Int)
 | 0, _, _, _, _, _, _, _, _ => none
 | k + 1, x1, x8, x9, x286000, x286001, x288000, x288001, x288002 => if x9 < (x1.length : Int) then (if 0 ≤ x9 then (if x8.length < 17592186044416 then (spec_l2Use.l0 k x1 (x8 ++ [rd x1 x9]) (wrap64 (x9 + 1)) x286000 x286001 x288000 x288001 x288002) else (none)) else (none)) else (spec_l2Use.l1 k x1 x8 0 x286000 x286001 x288000 x288001 x288002)
def spec_l2Use.l1 : Nat → List Int → List Int → Int → List (S51) → List (S59) → List (S54) → List Int → List (List (S54)) → Option (List Int)
 | 0, _, _, _, _, _, _, _, _ => none
 | k + 1, x1, x8, x10, x286000, x286001, x288000, x288001, x288002 => if x10 < (x288001.length : Int) then (if 0 ≤ x10 then (if x10 < (x288002.length : Int) then ((spec_l2Last.f k (rd_L3 x288002 x10) x1).bind fun t298 => (if 0 ≤ (rd x288001 x10) then (if (rd x288001 x10) < (x8.length : Int) then (spec_l2Use.l1 k x1 (x8.set ((rd x288001 x10) : Int).toNat t298) (wrap64 (x10 + 1)) x286000 x286001 x288000 x288001 x288002) else (none)) else (none))) else (none)) else (none)) else ((spec_l2In.f k x286000 x286001 x8).bind fun t300 => (if t300 = true then (some x8) else (some ([] : List Int))))
end
def spec_l2Use.f (k : Nat) (l0_0 : List (S51)) (l0_1 : List (S59)) (l1 : List Int) (a2 : Int) : Option (List Int) := if 0 ≤ a2 then (if a2 < (l0_1.length : Int) then ((spec_l2Last.f k ((rd_T59 l0_1 a2).f0) l1).bind fun t288 => (if t288 = 0 then (some ([] : List Int)) else (spec_l2Use.l0 k l1 (([] : List Int)) 0 l0_0 l0_1 ((rd_T59 l0_1 a2).f0) ((rd_T59 l0_1 a2).f1) ((rd_T59 l0_1 a2).f2)))) else (none)) else (none)
def spec_l2Use.T12 : Bool × List (List Nat × List Nat) := (true, [([], []), ([], []), ([1], [1]), ([], []), ([2, 3], [2, 3]), ([4], [4]), ([], []), ([6], [6]), ([], []), ([7, 8], [7, 8]), ([9], [9]), ([], []), ([10, 11], [10, 11]), ([0, 5, 0, 1, 2, 3, 4, 5, 6, 7, 8, 9, 10, 11, 12], [0, 5]), ([13, 12, 12, 0, 1, 2, 3, 4, 5, 6, 7, 8, 9, 10, 11, 12], [12, 13])])
def spec_l2Use.B12 : List Nat := [0, 0, 2, 0, 14, 30, 0, 64, 0, 448, 960, 0, 4032, 8191, 16383]
theorem spec_l2Use.tab12 : rtab .any (opsOf Try.f35 12) = spec_l2Use.T12 := by kernel_rfl
theorem spec_l2Use.bits12 : waitsOk spec_l2Use.T12.2 spec_l2Use.B12 = true := by kernel_rfl
set_option maxHeartbeats 8000000 in
set_option maxRecDepth 100000 in
theorem spec_l2Use.calls (k : Nat) (A0_0 : Option Addr) (c0_0 : Nat) (l0_0 : List (S51)) (A0_1 : Option Addr) (c0_1 : Nat) (l0_1 : List (S59)) (A1 : Option Addr) (c1 : Nat) (l1 : List Int) (a2 : Int) (r : List Int) (w : World) (hr0_0 : Kd.C k51 w A0_0 l0_0.length l0_0) (hc0_0 : l0_0.length ≤ c0_0) (hr0_1 : Kd.C k59 w A0_1 l0_1.length l0_1) (hc0_1 : l0_1.length ≤ c0_1) (hr1 : Kd.C (Kd.int .i64) w A1 l1.length l1) (hc1 : l1.length ≤ c1) (h : spec_l2Use.f k l0_0 l0_1 l1 a2 = some r) :
  Calls Try.prog 35 #[.agg #[.slice A0_0 l0_0.length c0_0, .slice A0_1 l0_1.length c0_1], .slice A1 l1.length c1, .int .i64 a2] w fun e w' => ∃ v0_ : Value, e = .returned (v0_) ∧ Kd.R (Kd.int .i64) 3 w' w.heap.size (fun _ => True) v0_ r ∧ Below w.heap.size w w' := by
 have hu35 := Try.underlying35
 have hu59 := Try.underlying59
 have HR0_0 := Aside0.mk hr0_0
 have HC0_0 := Aside0.mk hc0_0
 clear hr0_0 hc0_0
 have HR0_1 := Aside0.mk hr0_1
 have HC0_1 := Aside0.mk hc0_1
 clear hr0_1 hc0_1
 have HR1 := Aside0.mk hr1
 have HC1 := Aside0.mk hc1
 clear hr1 hc1
 have HB := Aside0.mk (Below.refl w.heap.size w)
 have H : (if 0 ≤ a2 then (if a2 < (l0_1.length : Int) then ((spec_l2Last.f k ((rd_T59 l0_1 a2).f0) l1).bind fun t288 => (if t288 = 0 then (some ([] : List Int)) else (spec_l2Use.l0 k l1 (([] : List Int)) 0 l0_0 l0_1 ((rd_T59 l0_1 a2).f0) ((rd_T59 l0_1 a2).f1) ((rd_T59 l0_1 a2).f2)))) else (none)) else (none)) = some r := h
 clear h
 by_cases c4 : 0 ≤ a2
 ·rw [if_pos c4] at H
  have c4b0 : decide (0 ≤ a2) = true := decide_eq_true c4
  clear c4
  by_cases c5 : a2 < (l0_1.length : Int)
  ·rw [if_pos c5] at H
   have c5b0 : decide (a2 < (l0_1.length : Int)) = true := decide_eq_true c5
   clear c5
   replace H := Option.bind_eq_some_iff.mp H
   obtain ⟨t288, A60, H⟩ := H
   replace H : (if t288 = 0 then (some ([] : List Int)) else (spec_l2Use.l0 k l1 (([] : List Int)) 0 l0_0 l0_1 ((rd_T59 l0_1 a2).f0) ((rd_T59 l0_1 a2).f1) ((rd_T59 l0_1 a2).f2))) = some r := H
   have A6 := Aside0.mk A60
   clear A60
   by_cases c7 : t288 = 0
   ·rw [if_pos c7] at H
    have c7b0 : (t288 == 0) = true := beq_iff_eq.mpr c7
    have c7b1 : (t288 != 0) = false := bne_eq_false_iff_eq.mpr c7
    clear c7
    obtain rfl := Option.some.inj H
    go_enter Try.func35, Try.ntmps35
    go_wp2_with (first | ((with_reducible refine gate_dst (N := 3) rfl ?_); refine box_event ?hg (N := 3) ?hd (cs := #[.slice A0_0 l0_0.length c0_0, .slice A0_1 l0_1.length c0_1]) (t := 35) ?hr ?_; (case hd => rfl); (case hg => rfl); (case hr => first | (go_simp; done) | (go_simp; rfl)); intro gb285 hg w8 hbox hb; have n0_ := Aside0.mk (below_step (by repeat (first | (with_reducible first | exact HB.out | apply below_alloc | apply pw_below_drewN | apply below_drew1) | exact HB.out)) hb); have n1_ := Aside0.mk (hbox); have n2_ := Aside0.mk ((by rw [hg]; exact (below_size (by repeat (first | (with_reducible first | exact HB.out | apply below_alloc | apply pw_below_drewN | apply below_drew1) | exact HB.out))) : w.heap.size ≤ gb285)); have n3_ := Aside0.mk ((by rw [hg]; exact (below_size (by repeat (first | (with_reducible first | exact HB.out | apply below_alloc | apply pw_below_drewN | apply below_drew1) | exact HB.out))) : w.heap.size ≤ gb285)); clear HB; have HB := n0_; have BK285 := n1_; have GW285 := n2_; have GE285 := n3_; clear n0_ n1_ n2_ n3_; clear hb hbox hg; have hcz9_0 : w8.cell? ⟨gb285, 0, none⟩ = some (.slice A0_0 l0_0.length c0_0) := (blk_cell BK285.out 0).trans rfl; have hcz9_1 : w8.cell? ⟨gb285, 1, none⟩ = some (.slice A0_1 l0_1.length c0_1) := (blk_cell BK285.out 1).trans rfl; have hfz9_0 := blk_frozen BK285.out 0; have hfz9_1 := blk_frozen BK285.out 1; have p286 : 0 ≤ (a2 : Int) := of_decide_eq_true (by first | (with_reducible assumption) | assumption); have q286 : a2 < (l0_1.length : Int) := of_decide_eq_true (by first | (with_reducible assumption) | assumption); obtain ⟨ad286, A286_0, c286_0, A286_1, c286_1, A286_2, c286_2, e286, hx286_0, hx286_1, hx286_2, hl286_0, hi286_0, hl286_1, hi286_1, hl286_2, hi286_2⟩ := at_T59 HR0_1.out a2 p286 q286; cases e286; replace hx286_0 := (HB.out.cell (World.block_lt_of_cell? w _ hx286_0)).trans hx286_0; replace hx286_1 := (HB.out.cell (World.block_lt_of_cell? w _ hx286_1)).trans hx286_1; replace hx286_2 := (HB.out.cell (World.block_lt_of_cell? w _ hx286_2)).trans hx286_2; have HR286_0 := Aside0.mk hi286_0; have HC286_0 := Aside0.mk hl286_0; clear hi286_0 hl286_0; have HR286_1 := Aside0.mk hi286_1; have HC286_1 := Aside0.mk hl286_1; clear hi286_1 hl286_1; have HR286_2 := Aside0.mk hi286_2; have HC286_2 := Aside0.mk hl286_2; clear hi286_2 hl286_2; replace p286 := eq_true p286; replace q286 := eq_true q286) | ((with_reducible refine gate_dst (N := 7) rfl ?_); refine box_event ?hg (N := 7) ?hd (cs := #[.slice none 0 0, .slice none 0 0, .slice none 0 0]) (t := 59) ?hr ?_; (case hd => rfl); (case hg => rfl); (case hr => first | (go_simp; done) | (go_simp; rfl)); intro gb287 hg w10 hbox hb; have n0_ := Aside0.mk (blk_below (g := gb285) (o := .cells #[.slice A0_0 l0_0.length c0_0, .slice (some ad286) l0_1.length c0_1] 35 (0, 0)) (by (with_reducible repeat (first | refine blk_drewN ?_ _ | refine blk_drew ?_ | refine blk_alloc ?_ _)); exact BK285.out) hb); have n1_ := Aside0.mk (below_step (by repeat (first | (with_reducible first | exact HB.out | apply below_alloc | apply pw_below_drewN | apply below_drew1 | refine below_set ?_ GE285.out) | exact HB.out)) hb); have n2_ := Aside0.mk (hbox); have n3_ := Aside0.mk ((by rw [hg]; exact (below_size (by repeat (first | (with_reducible first | exact HB.out | apply below_alloc | apply pw_below_drewN | apply below_drew1 | refine below_set ?_ GE285.out) | exact HB.out))) : w.heap.size ≤ gb287)); have n4_ := Aside0.mk ((by rw [hg]; exact (below_size (by repeat (first | (with_reducible first | exact HB.out | apply below_alloc | apply pw_below_drewN | apply below_drew1 | refine below_set ?_ GE285.out) | exact HB.out))) : w.heap.size ≤ gb287)); have n5_ := Aside0.mk ((by rw [hg]; exact Nat.ne_of_lt (blk_lt (g := gb285) (o := .cells #[.slice A0_0 l0_0.length c0_0, .slice (some ad286) l0_1.length c0_1] 35 (0, 0)) (by (with_reducible repeat (first | refine blk_drewN ?_ _ | refine blk_drew ?_ | refine blk_alloc ?_ _)); exact BK285.out)) : gb285 ≠ gb287)); have n6_ := Aside0.mk ((by rw [hg]; exact Nat.ne_of_gt (blk_lt (g := gb285) (o := .cells #[.slice A0_0 l0_0.length c0_0, .slice (some ad286) l0_1.length c0_1] 35 (0, 0)) (by (with_reducible repeat (first | refine blk_drewN ?_ _ | refine blk_drew ?_ | refine blk_alloc ?_ _)); exact BK285.out)) : gb287 ≠ gb285)); clear BK285; clear HB; have BK285 := n0_; have HB := n1_; have BK287 := n2_; have GW287 := n3_; have GE287 := n4_; have NB285_287 := n5_; have NB287_285 := n6_; clear n0_ n1_ n2_ n3_ n4_ n5_ n6_; clear hb hbox hg; have hnb11 := NB287_285.out; have hnc11 := NB285_287.out; have hcz12_0 : w10.cell? ⟨gb287, 0, none⟩ = some (.slice none 0 0) := (blk_cell BK287.out 0).trans rfl; have hcz12_1 : w10.cell? ⟨gb287, 1, none⟩ = some (.slice none 0 0) := (blk_cell BK287.out 1).trans rfl; have hcz12_2 : w10.cell? ⟨gb287, 2, none⟩ = some (.slice none 0 0) := (blk_cell BK287.out 2).trans rfl; have hfz12_0 := blk_frozen BK287.out 0; have hfz12_1 := blk_frozen BK287.out 1; have hfz12_2 := blk_frozen BK287.out 2) | ((with_reducible refine gate_callee (f := 40) rfl ?_); refine goesL_ (some 19) rfl rfl Try.func40 (by kernel_rfl) rfl #[.slice A286_0 ((rd_T59 l0_1 a2).f0).length c286_0, .slice A1 l1.length c1] rfl (by (try simp only [List.map_toArray, List.map_cons, List.map_nil]); first | done | rfl | (simp only [List.length_drop, List.length_take]; rfl)) ?_; (with_reducible refine (spec_l2Last.calls k _ _ ((rd_T59 l0_1 a2).f0) _ _ l1 t288 _ ?side1 ?side2 ?side3 ?side4 A6.out).mono ?_); (case side1 => exact Kd.C_below HR286_0.out (by repeat (first | (with_reducible first | exact HB.out | apply below_alloc | apply pw_below_drewN | apply below_drew1 | refine below_set ?_ GE285.out | refine below_set ?_ GE287.out) | exact HB.out))); (case side2 => exact HC286_0.out); (case side3 => exact Kd.C_below HR1.out (by repeat (first | (with_reducible first | exact HB.out | apply below_alloc | apply pw_below_drewN | apply below_drew1 | refine below_set ?_ GE285.out | refine below_set ?_ GE287.out) | exact HB.out))); (case side4 => exact HC1.out); rintro e w13 ⟨rfl, hb⟩; refine ⟨_, rfl, ?_⟩; have n0_ := Aside0.mk (blk_below (g := gb285) (o := .cells #[.slice A0_0 l0_0.length c0_0, .slice (some ad286) l0_1.length c0_1] 35 (0, 0)) (by (with_reducible repeat (first | refine blk_drewN ?_ _ | refine blk_drew ?_ | refine blk_alloc ?_ _)); refine blk_far ?_ NB285_287.out _; (with_reducible repeat (first | refine blk_drewN ?_ _ | refine blk_drew ?_ | refine blk_alloc ?_ _)); refine blk_far ?_ NB285_287.out _; (with_reducible repeat (first | refine blk_drewN ?_ _ | refine blk_drew ?_ | refine blk_alloc ?_ _)); refine blk_far ?_ NB285_287.out _; (with_reducible repeat (first | refine blk_drewN ?_ _ | refine blk_drew ?_ | refine blk_alloc ?_ _)); exact BK285.out) hb); have n1_ := Aside0.mk (blk_below (g := gb287) (o := .cells #[.slice A286_0 ((rd_T59 l0_1 a2).f0).length c286_0, .slice A286_1 ((rd_T59 l0_1 a2).f1).length c286_1, .slice A286_2 ((rd_T59 l0_1 a2).f2).length c286_2] 59 (0, 0)) (by (with_reducible repeat (first | refine blk_drewN ?_ _ | refine blk_drew ?_ | refine blk_alloc ?_ _)); refine blk_put (cs := #[.slice A286_0 ((rd_T59 l0_1 a2).f0).length c286_0, .slice A286_1 ((rd_T59 l0_1 a2).f1).length c286_1, .slice none 0 0]) ?_ 2 _ rfl; (with_reducible repeat (first | refine blk_drewN ?_ _ | refine blk_drew ?_ | refine blk_alloc ?_ _)); refine blk_put (cs := #[.slice A286_0 ((rd_T59 l0_1 a2).f0).length c286_0, .slice none 0 0, .slice none 0 0]) ?_ 1 _ rfl; (with_reducible repeat (first | refine blk_drewN ?_ _ | refine blk_drew ?_ | refine blk_alloc ?_ _)); refine blk_put (cs := #[.slice none 0 0, .slice none 0 0, .slice none 0 0]) ?_ 0 _ rfl; (with_reducible repeat (first | refine blk_drewN ?_ _ | refine blk_drew ?_ | refine blk_alloc ?_ _)); exact BK287.out) hb); have n2_ := Aside0.mk (below_step (by repeat (first | (with_reducible first | exact HB.out | apply below_alloc | apply pw_below_drewN | apply below_drew1 | refine below_set ?_ GE285.out | refine below_set ?_ GE287.out) | exact HB.out)) hb); clear BK285; clear BK287; clear HB; have BK285 := n0_; have BK287 := n1_; have HB := n2_; clear n0_ n1_ n2_; (try clear hb); (try clear hb2); (try clear hk); (try clear hi)))
    go_ret
    exact ⟨_, by first | rfl | (simp [errW_none, errW_some] <;> rfl) | (simp [*, errW_none, errW_some] <;> rfl), by first | exact Kd.R_nil _ _ _ _ _ | exact Kd.N_nil _ _ _ _ _ | exact Kd.V_nil _ _ _ _ _ | exact Kd.Q_nil _ _ _ _ _ | exact Kd.S_nil _ _ _ _ _, by repeat (first | (with_reducible first | exact HB.out | apply below_alloc | apply pw_below_drewN | apply below_drew1 | refine below_set ?_ GE285.out | refine below_set ?_ GE287.out) | exact HB.out)⟩
   ·rw [if_neg c7] at H
    have c7b0 : (t288 == 0) = false := beq_eq_false_iff_ne.mpr c7
    have c7b1 : (t288 != 0) = true := bne_iff_ne.mpr c7
    obtain ⟨y289, hy289⟩ : ∃ y_ : List Int, y_ = (([] : List Int)) := ⟨_, rfl⟩
    replace H : (spec_l2Use.l0 k l1 y289 0 l0_0 l0_1 ((rd_T59 l0_1 a2).f0) ((rd_T59 l0_1 a2).f1) ((rd_T59 l0_1 a2).f2)) = some r := by first | (rw [hy289]; with_reducible exact H) | (have H2_ := (Option.bind_some _ _).symm.trans H; rw [hy289]; with_reducible exact H2_) | (have H2_ := (Option.bind_some _ _).symm.trans H; with_reducible exact H2_) | with_reducible exact H | (rw [hy289]; exact H) | exact H
    have Ny289 := Aside0.mk hy289
    clear hy289
    have H' := Aside0.mk H
    clear H
    go_enter Try.func35, Try.ntmps35
    go_wp2_with (first | ((with_reducible refine gate_dst (N := 3) rfl ?_); refine box_event ?hg (N := 3) ?hd (cs := #[.slice A0_0 l0_0.length c0_0, .slice A0_1 l0_1.length c0_1]) (t := 35) ?hr ?_; (case hd => rfl); (case hg => rfl); (case hr => first | (go_simp; done) | (go_simp; rfl)); intro gb285 hg w14 hbox hb; have n0_ := Aside0.mk (below_step (by repeat (first | (with_reducible first | exact HB.out | apply below_alloc | apply pw_below_drewN | apply below_drew1) | exact HB.out)) hb); have n1_ := Aside0.mk (hbox); have n2_ := Aside0.mk ((by rw [hg]; exact (below_size (by repeat (first | (with_reducible first | exact HB.out | apply below_alloc | apply pw_below_drewN | apply below_drew1) | exact HB.out))) : w.heap.size ≤ gb285)); have n3_ := Aside0.mk ((by rw [hg]; exact (below_size (by repeat (first | (with_reducible first | exact HB.out | apply below_alloc | apply pw_below_drewN | apply below_drew1) | exact HB.out))) : w.heap.size ≤ gb285)); clear HB; have HB := n0_; have BK285 := n1_; have GW285 := n2_; have GE285 := n3_; clear n0_ n1_ n2_ n3_; clear hb hbox hg; have hcz15_0 : w14.cell? ⟨gb285, 0, none⟩ = some (.slice A0_0 l0_0.length c0_0) := (blk_cell BK285.out 0).trans rfl; have hcz15_1 : w14.cell? ⟨gb285, 1, none⟩ = some (.slice A0_1 l0_1.length c0_1) := (blk_cell BK285.out 1).trans rfl; have hfz15_0 := blk_frozen BK285.out 0; have hfz15_1 := blk_frozen BK285.out 1; have p286 : 0 ≤ (a2 : Int) := of_decide_eq_true (by first | (with_reducible assumption) | assumption); have q286 : a2 < (l0_1.length : Int) := of_decide_eq_true (by first | (with_reducible assumption) | assumption); obtain ⟨ad286, A286_0, c286_0, A286_1, c286_1, A286_2, c286_2, e286, hx286_0, hx286_1, hx286_2, hl286_0, hi286_0, hl286_1, hi286_1, hl286_2, hi286_2⟩ := at_T59 HR0_1.out a2 p286 q286; cases e286; replace hx286_0 := (HB.out.cell (World.block_lt_of_cell? w _ hx286_0)).trans hx286_0; replace hx286_1 := (HB.out.cell (World.block_lt_of_cell? w _ hx286_1)).trans hx286_1; replace hx286_2 := (HB.out.cell (World.block_lt_of_cell? w _ hx286_2)).trans hx286_2; have HR286_0 := Aside0.mk hi286_0; have HC286_0 := Aside0.mk hl286_0; clear hi286_0 hl286_0; have HR286_1 := Aside0.mk hi286_1; have HC286_1 := Aside0.mk hl286_1; clear hi286_1 hl286_1; have HR286_2 := Aside0.mk hi286_2; have HC286_2 := Aside0.mk hl286_2; clear hi286_2 hl286_2; replace p286 := eq_true p286; replace q286 := eq_true q286) | ((with_reducible refine gate_dst (N := 7) rfl ?_); refine box_event ?hg (N := 7) ?hd (cs := #[.slice none 0 0, .slice none 0 0, .slice none 0 0]) (t := 59) ?hr ?_; (case hd => rfl); (case hg => rfl); (case hr => first | (go_simp; done) | (go_simp; rfl)); intro gb287 hg w16 hbox hb; have n0_ := Aside0.mk (blk_below (g := gb285) (o := .cells #[.slice A0_0 l0_0.length c0_0, .slice (some ad286) l0_1.length c0_1] 35 (0, 0)) (by (with_reducible repeat (first | refine blk_drewN ?_ _ | refine blk_drew ?_ | refine blk_alloc ?_ _)); exact BK285.out) hb); have n1_ := Aside0.mk (below_step (by repeat (first | (with_reducible first | exact HB.out | apply below_alloc | apply pw_below_drewN | apply below_drew1 | refine below_set ?_ GE285.out) | exact HB.out)) hb); have n2_ := Aside0.mk (hbox); have n3_ := Aside0.mk ((by rw [hg]; exact (below_size (by repeat (first | (with_reducible first | exact HB.out | apply below_alloc | apply pw_below_drewN | apply below_drew1 | refine below_set ?_ GE285.out) | exact HB.out))) : w.heap.size ≤ gb287)); have n4_ := Aside0.mk ((by rw [hg]; exact (below_size (by repeat (first | (with_reducible first | exact HB.out | apply below_alloc | apply pw_below_drewN | apply below_drew1 | refine below_set ?_ GE285.out) | exact HB.out))) : w.heap.size ≤ gb287)); have n5_ := Aside0.mk ((by rw [hg]; exact Nat.ne_of_lt (blk_lt (g := gb285) (o := .cells #[.slice A0_0 l0_0.length c0_0, .slice (some ad286) l0_1.length c0_1] 35 (0, 0)) (by (with_reducible repeat (first | refine blk_drewN ?_ _ | refine blk_drew ?_ | refine blk_alloc ?_ _)); exact BK285.out)) : gb285 ≠ gb287)); have n6_ := Aside0.mk ((by rw [hg]; exact Nat.ne_of_gt (blk_lt (g := gb285) (o := .cells #[.slice A0_0 l0_0.length c0_0, .slice (some ad286) l0_1.length c0_1] 35 (0, 0)) (by (with_reducible repeat (first | refine blk_drewN ?_ _ | refine blk_drew ?_ | refine blk_alloc ?_ _)); exact BK285.out)) : gb287 ≠ gb285)); clear BK285; clear HB; have BK285 := n0_; have HB := n1_; have BK287 := n2_; have GW287 := n3_; have GE287 := n4_; have NB285_287 := n5_; have NB287_285 := n6_; clear n0_ n1_ n2_ n3_ n4_ n5_ n6_; clear hb hbox hg; have hnb17 := NB287_285.out; have hnc17 := NB285_287.out; have hcz18_0 : w16.cell? ⟨gb287, 0, none⟩ = some (.slice none 0 0) := (blk_cell BK287.out 0).trans rfl; have hcz18_1 : w16.cell? ⟨gb287, 1, none⟩ = some (.slice none 0 0) := (blk_cell BK287.out 1).trans rfl; have hcz18_2 : w16.cell? ⟨gb287, 2, none⟩ = some (.slice none 0 0) := (blk_cell BK287.out 2).trans rfl; have hfz18_0 := blk_frozen BK287.out 0; have hfz18_1 := blk_frozen BK287.out 1; have hfz18_2 := blk_frozen BK287.out 2) | ((with_reducible refine gate_callee (f := 40) rfl ?_); refine goesL_ (some 19) rfl rfl Try.func40 (by kernel_rfl) rfl #[.slice A286_0 ((rd_T59 l0_1 a2).f0).length c286_0, .slice A1 l1.length c1] rfl (by (try simp only [List.map_toArray, List.map_cons, List.map_nil]); first | done | rfl | (simp only [List.length_drop, List.length_take]; rfl)) ?_; (with_reducible refine (spec_l2Last.calls k _ _ ((rd_T59 l0_1 a2).f0) _ _ l1 t288 _ ?side1 ?side2 ?side3 ?side4 A6.out).mono ?_); (case side1 => exact Kd.C_below HR286_0.out (by repeat (first | (with_reducible first | exact HB.out | apply below_alloc | apply pw_below_drewN | apply below_drew1 | refine below_set ?_ GE285.out | refine below_set ?_ GE287.out) | exact HB.out))); (case side2 => exact HC286_0.out); (case side3 => exact Kd.C_below HR1.out (by repeat (first | (with_reducible first | exact HB.out | apply below_alloc | apply pw_below_drewN | apply below_drew1 | refine below_set ?_ GE285.out | refine below_set ?_ GE287.out) | exact HB.out))); (case side4 => exact HC1.out); rintro e w19 ⟨rfl, hb⟩; refine ⟨_, rfl, ?_⟩; have n0_ := Aside0.mk (blk_below (g := gb285) (o := .cells #[.slice A0_0 l0_0.length c0_0, .slice (some ad286) l0_1.length c0_1] 35 (0, 0)) (by (with_reducible repeat (first | refine blk_drewN ?_ _ | refine blk_drew ?_ | refine blk_alloc ?_ _)); refine blk_far ?_ NB285_287.out _; (with_reducible repeat (first | refine blk_drewN ?_ _ | refine blk_drew ?_ | refine blk_alloc ?_ _)); refine blk_far ?_ NB285_287.out _; (with_reducible repeat (first | refine blk_drewN ?_ _ | refine blk_drew ?_ | refine blk_alloc ?_ _)); refine blk_far ?_ NB285_287.out _; (with_reducible repeat (first | refine blk_drewN ?_ _ | refine blk_drew ?_ | refine blk_alloc ?_ _)); exact BK285.out) hb); have n1_ := Aside0.mk (blk_below (g := gb287) (o := .cells #[.slice A286_0 ((rd_T59 l0_1 a2).f0).length c286_0, .slice A286_1 ((rd_T59 l0_1 a2).f1).length c286_1, .slice A286_2 ((rd_T59 l0_1 a2).f2).length c286_2] 59 (0, 0)) (by (with_reducible repeat (first | refine blk_drewN ?_ _ | refine blk_drew ?_ | refine blk_alloc ?_ _)); refine blk_put (cs := #[.slice A286_0 ((rd_T59 l0_1 a2).f0).length c286_0, .slice A286_1 ((rd_T59 l0_1 a2).f1).length c286_1, .slice none 0 0]) ?_ 2 _ rfl; (with_reducible repeat (first | refine blk_drewN ?_ _ | refine blk_drew ?_ | refine blk_alloc ?_ _)); refine blk_put (cs := #[.slice A286_0 ((rd_T59 l0_1 a2).f0).length c286_0, .slice none 0 0, .slice none 0 0]) ?_ 1 _ rfl; (with_reducible repeat (first | refine blk_drewN ?_ _ | refine blk_drew ?_ | refine blk_alloc ?_ _)); refine blk_put (cs := #[.slice none 0 0, .slice none 0 0, .slice none 0 0]) ?_ 0 _ rfl; (with_reducible repeat (first | refine blk_drewN ?_ _ | refine blk_drew ?_ | refine blk_alloc ?_ _)); exact BK287.out) hb); have n2_ := Aside0.mk (below_step (by repeat (first | (with_reducible first | exact HB.out | apply below_alloc | apply pw_below_drewN | apply below_drew1 | refine below_set ?_ GE285.out | refine below_set ?_ GE287.out) | exact HB.out)) hb); clear BK285; clear BK287; clear HB; have BK285 := n0_; have BK287 := n1_; have HB := n2_; clear n0_ n1_ n2_; (try clear hb); (try clear hb2); (try clear hk); (try clear hi)) | ((with_reducible refine gate_dst (N := 21) rfl ?_); refine Kd.R_lit (Kd.int .i64) _ 3 ?hg (N := 21) ?hd (xs := ([] : List Int)) (inner := []) (ok := fun _ => True) (okp := fun _ => True) ?hr ?hp (fun _ hk => hk) trivial (Below.refl _ _) (Nat.le_refl _) (by simp) ?_; (case hd => rfl); (case hg => rfl); (case hr => first | (go_simp; done) | (go_simp; rfl)); (case hp => exact (Reps.none _ _)); intro v290 w20 ho21 hb hg_ hnew_; clear hg_ hnew_; (first | rw [← Ny289.out] at ho21 | (simp only [Int.reduceToNat] at ho21; rw [← Ny289.out] at ho21)); have n0_ := Aside0.mk (Kd.R_lower ho21 (below_size (by repeat (first | (with_reducible first | exact HB.out | apply below_alloc | apply pw_below_drewN | apply below_drew1 | refine below_set ?_ GE285.out | refine below_set ?_ GE287.out) | exact HB.out)))); have n1_ := Aside0.mk (blk_below (g := gb285) (o := .cells #[.slice A0_0 l0_0.length c0_0, .slice (some ad286) l0_1.length c0_1] 35 (0, 0)) (by (with_reducible repeat (first | refine blk_drewN ?_ _ | refine blk_drew ?_ | refine blk_alloc ?_ _)); exact BK285.out) hb); have n2_ := Aside0.mk (blk_below (g := gb287) (o := .cells #[.slice A286_0 ((rd_T59 l0_1 a2).f0).length c286_0, .slice A286_1 ((rd_T59 l0_1 a2).f1).length c286_1, .slice A286_2 ((rd_T59 l0_1 a2).f2).length c286_2] 59 (0, 0)) (by (with_reducible repeat (first | refine blk_drewN ?_ _ | refine blk_drew ?_ | refine blk_alloc ?_ _)); exact BK287.out) hb); have n3_ := Aside0.mk (below_step (by repeat (first | (with_reducible first | exact HB.out | apply below_alloc | apply pw_below_drewN | apply below_drew1 | refine below_set ?_ GE285.out | refine below_set ?_ GE287.out) | exact HB.out)) hb); clear BK285; clear BK287; clear HB; have HO291 := n0_; have BK285 := n1_; have BK287 := n2_; have HB := n3_; clear n0_ n1_ n2_ n3_; clear hb ho21))
    go_loopg [8, 9] k (fun kq v8 v9 w' => ∃ (x8_1 : List Int) (x9_1 : Int), v9 = .int .i64 x9_1 ∧ Aside0 (spec_l2Use.l0 kq l1 x8_1 x9_1 l0_0 l0_1 ((rd_T59 l0_1 a2).f0) ((rd_T59 l0_1 a2).f1) ((rd_T59 l0_1 a2).f2) = some r) ∧ Aside0 (kq ≤ k) ∧ Aside0 (Kd.R (Kd.int .i64) 3 w' w.heap.size (fun _ => True) v8 x8_1) ∧ Aside0 (w'.heap[gb285]? = some (.cells #[(.slice A0_0 l0_0.length c0_0), (.slice (some ad286) l0_1.length c0_1)] 35 (0, 0))) ∧ Aside0 (w'.heap[gb287]? = some (.cells #[(.slice A286_0 ((rd_T59 l0_1 a2).f0).length c286_0), (.slice A286_1 ((rd_T59 l0_1 a2).f1).length c286_1), (.slice A286_2 ((rd_T59 l0_1 a2).f2).length c286_2)] 59 (0, 0))) ∧ Aside0 (Below w.heap.size w w'))
    case atStart => exact ⟨(y289), (0), (by first | rfl | (simp; done) | (simp [*]; done)), H', ⟨Nat.le_refl _⟩, ⟨by (with_reducible repeat (first | apply Kd.R_alloc | apply Kd.R_drewN | apply Kd.R_drew)); exact HO291.out⟩, ⟨by (with_reducible repeat (first | refine blk_drewN ?_ _ | refine blk_drew ?_ | refine blk_alloc ?_ _)); exact BK285.out⟩, ⟨by (with_reducible repeat (first | refine blk_drewN ?_ _ | refine blk_drew ?_ | refine blk_alloc ?_ _)); exact BK287.out⟩, ⟨by repeat (first | (with_reducible first | exact HB.out | apply below_alloc | apply pw_below_drewN | apply below_drew1 | refine below_set ?_ GE285.out | refine below_set ?_ GE287.out) | exact HB.out)⟩⟩
    case round =>
     clear H'
     try clear c1
     try clear c2
     try clear p2
     try clear q2
     try clear hx2
     try clear c3
     try clear c4
     try clear c4b0
     try clear c5
     try clear c5b0
     try clear c7
     try clear c7b0
     try clear c7b1
     try clear c11
     try clear c17
     try clear hcz12_0
     try clear hcz12_1
     try clear hcz12_2
     try clear hcz15_0
     try clear hcz15_1
     try clear hcz18_0
     try clear hcz18_1
     try clear hcz18_2
     try clear hcz9_0
     try clear hcz9_1
     try clear hfz12_0
     try clear hfz12_1
     try clear hfz12_2
     try clear hfz15_0
     try clear hfz15_1
     try clear hfz18_0
     try clear hfz18_1
     try clear hfz18_2
     try clear hfz9_0
     try clear hfz9_1
     try clear hx286_0
     try clear hx286_1
     try clear hx286_2
     try clear p286
     try clear q286
     obtain ⟨x8_1, x9_1, rfl, HA, HK1, HO_8, BK285, BK287, HB⟩ := hrel
     cases gk with
     | zero => exact absurd HA.out (by simp [spec_l2Use.l0])
     | succ k1 =>
      have H := HA.out
      clear HA
      simp only [spec_l2Use.l0] at H
      by_cases c22 : x9_1 < (l1.length : Int)
      ·rw [if_pos c22] at H
       have c22b0 : decide (x9_1 < (l1.length : Int)) = true := decide_eq_true c22
       clear c22
       by_cases c23 : 0 ≤ x9_1
       ·rw [if_pos c23] at H
        have c23b0 : decide (0 ≤ x9_1) = true := decide_eq_true c23
        clear c23
        by_cases c24 : x8_1.length < 17592186044416
        ·rw [if_pos c24] at H
         have LMc24 := Aside0.mk c24
         clear c24
         obtain ⟨y293, hy293⟩ : ∃ y_ : List Int, y_ = (x8_1 ++ [rd l1 x9_1]) := ⟨_, rfl⟩
         replace H : (spec_l2Use.l0 k1 l1 y293 (wrap64 (x9_1 + 1)) l0_0 l0_1 ((rd_T59 l0_1 a2).f0) ((rd_T59 l0_1 a2).f1) ((rd_T59 l0_1 a2).f2)) = some r := by first | (rw [hy293]; with_reducible exact H) | (have H2_ := (Option.bind_some _ _).symm.trans H; rw [hy293]; with_reducible exact H2_) | (have H2_ := (Option.bind_some _ _).symm.trans H; with_reducible exact H2_) | with_reducible exact H | (rw [hy293]; exact H) | exact H
         have Ny293 := Aside0.mk hy293
         clear hy293
         have H' := Aside0.mk H
         clear H
         have p292 : 0 ≤ (x9_1 : Int) := of_decide_eq_true (by first | (with_reducible assumption) | assumption)
         have q292 : x9_1 < (l1.length : Int) := of_decide_eq_true (by first | (with_reducible assumption) | assumption)
         obtain ⟨ad292, e292, hx292_0⟩ := Kd.at_int HR1.out x9_1 p292 q292
         cases e292
         replace hx292_0 := (HB.out.cell (World.block_lt_of_cell? w _ hx292_0)).trans hx292_0
         replace p292 := eq_true p292
         replace q292 := eq_true q292
         go_wp2_with (first | ((with_reducible refine gate_builtin (b := .append) (xs := #[.tmp 28, .tmp 33]) rfl ?_); at_builtin; refine Kd.R_append (Kd.int .i64) (w0 := w) w.heap.size rfl (.tmp 28) (.tmp 33) 28 3 (.int .i64 0) 8 rfl Try.underlying28 info3 rfl (by decide) (by omega) u8 x8_1 (rd l1 x9_1) [.int .i64 (rd l1 x9_1)] (fun _ => True) (fun _ => False) rfl rfl ?aP (fun _ hk => hk.elim) ?aF ?aO ?aB ?aS ?aL ?_; (case aP => exact rfl); (case aB => exact (by repeat (first | (with_reducible first | exact HB.out | apply below_alloc | apply pw_below_drewN | apply below_drew1 | refine below_set ?_ GE285.out | refine below_set ?_ GE287.out) | exact HB.out))); (case aF => exact (fun _ _ => trivial)); (case aO => exact (by (with_reducible repeat (first | apply Kd.R_alloc | apply Kd.R_drewN | apply Kd.R_drew)); exact HO_8.out)); (case aS => exact (below_size (by repeat (first | (with_reducible first | exact HB.out | apply below_alloc | apply pw_below_drewN | apply below_drew1 | refine below_set ?_ GE285.out | refine below_set ?_ GE287.out) | exact HB.out)))); (case aL => have := LMc24.out; omega); intro v294 w25 ho hb hg hat; rw [← Ny293.out] at ho; have n0_ := Aside0.mk (blk_grown (g := gb285) (o := .cells #[.slice A0_0 l0_0.length c0_0, .slice (some ad286) l0_1.length c0_1] 35 (0, 0)) (by (with_reducible repeat (first | refine blk_drewN ?_ _ | refine blk_drew ?_ | refine blk_alloc ?_ _)); exact BK285.out) hg (Kd.R_ne HO_8.out BK285.out (by decide))); have n1_ := Aside0.mk (blk_grown (g := gb287) (o := .cells #[.slice A286_0 ((rd_T59 l0_1 a2).f0).length c286_0, .slice A286_1 ((rd_T59 l0_1 a2).f1).length c286_1, .slice A286_2 ((rd_T59 l0_1 a2).f2).length c286_2] 59 (0, 0)) (by (with_reducible repeat (first | refine blk_drewN ?_ _ | refine blk_drew ?_ | refine blk_alloc ?_ _)); exact BK287.out) hg (Kd.R_ne HO_8.out BK287.out (by decide))); have n2_ := Aside0.mk (hb); have n3_ := Aside0.mk (ho); clear BK285; clear BK287; clear HB; clear HO_8; have BK285 := n0_; have BK287 := n1_; have HB := n2_; have HO295 := n3_; clear n0_ n1_ n2_ n3_; clear ho hb hg hat))
         go_roundg k1
         case measure => have := HK1.out; omega
         case rel => exact ⟨(y293), (wrap64 (x9_1 + 1)), (by first | rfl | (simp; done) | (simp [*]; done)), H', ⟨by have := HK1.out; omega⟩, ⟨by (with_reducible repeat (first | apply Kd.R_alloc | apply Kd.R_drewN | apply Kd.R_drew)); exact HO295.out⟩, ⟨by (with_reducible repeat (first | refine blk_drewN ?_ _ | refine blk_drew ?_ | refine blk_alloc ?_ _)); exact BK285.out⟩, ⟨by (with_reducible repeat (first | refine blk_drewN ?_ _ | refine blk_drew ?_ | refine blk_alloc ?_ _)); exact BK287.out⟩, ⟨by repeat (first | (with_reducible first | exact HB.out | apply below_alloc | apply pw_below_drewN | apply below_drew1 | refine below_set ?_ GE285.out | refine below_set ?_ GE287.out) | exact HB.out)⟩⟩
        ·rw [if_neg c24] at H
         exact absurd H (by simp)
       ·rw [if_neg c23] at H
        exact absurd H (by simp)
      ·rw [if_neg c22] at H
       have c22b0 : decide (x9_1 < (l1.length : Int)) = false := decide_eq_false c22
       clear c22
       have H' := Aside0.mk H
       clear H
       go_wp2
       go_loopg [10] k1 (fun kq v10 w' => ∃ (x8_2 : List Int) (x10_2 : Int), v10 = .int .i64 x10_2 ∧ Aside0 (spec_l2Use.l1 kq l1 x8_2 x10_2 l0_0 l0_1 ((rd_T59 l0_1 a2).f0) ((rd_T59 l0_1 a2).f1) ((rd_T59 l0_1 a2).f2) = some r) ∧ Aside0 (kq ≤ k1) ∧ Aside0 (Kd.R (Kd.int .i64) 3 w' w.heap.size (fun _ => True) u8 x8_2) ∧ Aside0 (w'.heap[gb285]? = some (.cells #[(.slice A0_0 l0_0.length c0_0), (.slice (some ad286) l0_1.length c0_1)] 35 (0, 0))) ∧ Aside0 (w'.heap[gb287]? = some (.cells #[(.slice A286_0 ((rd_T59 l0_1 a2).f0).length c286_0), (.slice A286_1 ((rd_T59 l0_1 a2).f1).length c286_1), (.slice A286_2 ((rd_T59 l0_1 a2).f2).length c286_2)] 59 (0, 0))) ∧ Aside0 (Below w.heap.size w w'))
       case atStart => exact ⟨(x8_1), (0), (by first | rfl | (simp; done) | (simp [*]; done)), H', ⟨Nat.le_refl _⟩, ⟨by (with_reducible repeat (first | apply Kd.R_alloc | apply Kd.R_drewN | apply Kd.R_drew)); exact HO_8.out⟩, ⟨by (with_reducible repeat (first | refine blk_drewN ?_ _ | refine blk_drew ?_ | refine blk_alloc ?_ _)); exact BK285.out⟩, ⟨by (with_reducible repeat (first | refine blk_drewN ?_ _ | refine blk_drew ?_ | refine blk_alloc ?_ _)); exact BK287.out⟩, ⟨by repeat (first | (with_reducible first | exact HB.out | apply below_alloc | apply pw_below_drewN | apply below_drew1 | refine below_set ?_ GE285.out | refine below_set ?_ GE287.out) | exact HB.out)⟩⟩
       case round =>
        clear H'
        try clear c1
        try clear c2
        try clear p2
        try clear q2
        try clear hx2
        try clear c3
        try clear c4
        try clear c4b0
        try clear c5
        try clear c5b0
        try clear p6
        try clear c7
        try clear c7b0
        try clear c7b1
        try clear c11
        try clear c17
        try clear c22
        try clear c22b0
        try clear c23
        try clear c23b0
        try clear c24
        try clear hcz12_0
        try clear hcz12_1
        try clear hcz12_2
        try clear hcz15_0
        try clear hcz15_1
        try clear hcz18_0
        try clear hcz18_1
        try clear hcz18_2
        try clear hcz9_0
        try clear hcz9_1
        try clear hfz12_0
        try clear hfz12_1
        try clear hfz12_2
        try clear hfz15_0
        try clear hfz15_1
        try clear hfz18_0
        try clear hfz18_1
        try clear hfz18_2
        try clear hfz9_0
        try clear hfz9_1
        try clear hx286_0
        try clear hx286_1
        try clear hx286_2
        try clear hx292_0
        try clear p2
        try clear p286
        try clear p292
        try clear q2
        try clear q286
        try clear q292
        obtain ⟨x8_2, x10_2, rfl, HA, HK2, HO_8, BK285, BK287, HB⟩ := hrel
        cases gk with
        | zero => exact absurd HA.out (by simp [spec_l2Use.l1])
        | succ k2 =>
         have H := HA.out
         clear HA
         simp only [spec_l2Use.l1] at H
         by_cases c26 : x10_2 < (((rd_T59 l0_1 a2).f1).length : Int)
         ·rw [if_pos c26] at H
          have c26b0 : decide (x10_2 < (((rd_T59 l0_1 a2).f1).length : Int)) = true := decide_eq_true c26
          clear c26
          by_cases c27 : 0 ≤ x10_2
          ·rw [if_pos c27] at H
           have c27b0 : decide (0 ≤ x10_2) = true := decide_eq_true c27
           clear c27
           by_cases c28 : x10_2 < (((rd_T59 l0_1 a2).f2).length : Int)
           ·rw [if_pos c28] at H
            have c28b0 : decide (x10_2 < (((rd_T59 l0_1 a2).f2).length : Int)) = true := decide_eq_true c28
            clear c28
            replace H := Option.bind_eq_some_iff.mp H
            obtain ⟨t298, A290, H⟩ := H
            replace H : (if 0 ≤ (rd ((rd_T59 l0_1 a2).f1) x10_2) then (if (rd ((rd_T59 l0_1 a2).f1) x10_2) < (x8_2.length : Int) then (spec_l2Use.l1 k2 l1 (x8_2.set ((rd ((rd_T59 l0_1 a2).f1) x10_2) : Int).toNat t298) (wrap64 (x10_2 + 1)) l0_0 l0_1 ((rd_T59 l0_1 a2).f0) ((rd_T59 l0_1 a2).f1) ((rd_T59 l0_1 a2).f2)) else (none)) else (none)) = some r := H
            have A29 := Aside0.mk A290
            clear A290
            by_cases c30 : 0 ≤ (rd ((rd_T59 l0_1 a2).f1) x10_2)
            ·rw [if_pos c30] at H
             have c30b0 : decide (0 ≤ (rd ((rd_T59 l0_1 a2).f1) x10_2)) = true := decide_eq_true c30
             clear c30
             by_cases c31 : (rd ((rd_T59 l0_1 a2).f1) x10_2) < (x8_2.length : Int)
             ·rw [if_pos c31] at H
              have c31b0 : decide ((rd ((rd_T59 l0_1 a2).f1) x10_2) < (x8_2.length : Int)) = true := decide_eq_true c31
              clear c31
              obtain ⟨y299, hy299⟩ : ∃ y_ : List Int, y_ = (x8_2.set ((rd ((rd_T59 l0_1 a2).f1) x10_2) : Int).toNat t298) := ⟨_, rfl⟩
              replace H : (spec_l2Use.l1 k2 l1 y299 (wrap64 (x10_2 + 1)) l0_0 l0_1 ((rd_T59 l0_1 a2).f0) ((rd_T59 l0_1 a2).f1) ((rd_T59 l0_1 a2).f2)) = some r := by first | (rw [hy299]; with_reducible exact H) | (have H2_ := (Option.bind_some _ _).symm.trans H; rw [hy299]; with_reducible exact H2_) | (have H2_ := (Option.bind_some _ _).symm.trans H; with_reducible exact H2_) | with_reducible exact H | (rw [hy299]; exact H) | exact H
              have Ny299 := Aside0.mk hy299
              clear hy299
              have H' := Aside0.mk H
              clear H
              have hnb33 := NB287_285.out
              have hnc33 := NB285_287.out
              have hcz34_0 : wr.cell? ⟨gb287, 0, none⟩ = some (.slice A286_0 ((rd_T59 l0_1 a2).f0).length c286_0) := (blk_cell BK287.out 0).trans rfl
              have hcz34_1 : wr.cell? ⟨gb287, 1, none⟩ = some (.slice A286_1 ((rd_T59 l0_1 a2).f1).length c286_1) := (blk_cell BK287.out 1).trans rfl
              have hcz34_2 : wr.cell? ⟨gb287, 2, none⟩ = some (.slice A286_2 ((rd_T59 l0_1 a2).f2).length c286_2) := (blk_cell BK287.out 2).trans rfl
              have hfz34_0 := blk_frozen BK287.out 0
              have hfz34_1 := blk_frozen BK287.out 1
              have hfz34_2 := blk_frozen BK287.out 2
              try go_wp2
              have n0_ := Aside0.mk (Kd.R_drew HO_8.out)
              have n1_ := Aside0.mk (blk_drew BK285.out)
              have n2_ := Aside0.mk (blk_drew BK287.out)
              have n3_ := Aside0.mk (below_drew1 HB.out)
              clear HO_8
              clear BK285
              clear BK287
              clear HB
              have HO_8 := n0_
              have BK285 := n1_
              have BK287 := n2_
              have HB := n3_
              clear n0_ n1_ n2_ n3_
              have p296 : 0 ≤ (x10_2 : Int) := of_decide_eq_true (by first | (with_reducible assumption) | assumption)
              have q296 : x10_2 < (((rd_T59 l0_1 a2).f1).length : Int) := of_decide_eq_true (by first | (with_reducible assumption) | assumption)
              obtain ⟨ad296, e296, hx296_0⟩ := Kd.at_int HR286_1.out x10_2 p296 q296
              have hw296_0 := hx296_0
              cases e296
              replace hx296_0 := (HB.out.cell (World.block_lt_of_cell? w _ hx296_0)).trans hx296_0
              replace p296 := eq_true p296
              replace q296 := eq_true q296
              have p297 : 0 ≤ (x10_2 : Int) := of_decide_eq_true (by first | (with_reducible assumption) | assumption)
              have q297 : x10_2 < (((rd_T59 l0_1 a2).f2).length : Int) := of_decide_eq_true (by first | (with_reducible assumption) | assumption)
              obtain ⟨ad297, A297_0, c297_0, e297, hx297_0, hl297_0, hi297_0⟩ := at_L3 HR286_2.out x10_2 p297 q297
              have hw297_0 := hx297_0
              cases e297
              replace hx297_0 := (HB.out.cell (World.block_lt_of_cell? w _ hx297_0)).trans hx297_0
              have HR297_0 := Aside0.mk hi297_0
              have HC297_0 := Aside0.mk hl297_0
              clear hi297_0 hl297_0
              replace p297 := eq_true p297
              replace q297 := eq_true q297
              refine start_ (n := 15) (S := fun w' => w'.cell? ⟨gb287, 0, none⟩ = some (.slice A286_0 ((rd_T59 l0_1 a2).f0).length c286_0) ∧ w'.cell? ⟨gb287, 1, none⟩ = some (.slice (some ad296) ((rd_T59 l0_1 a2).f1).length c286_1) ∧ w'.cell? ⟨gb287, 2, none⟩ = some (.slice (some ad297) ((rd_T59 l0_1 a2).f2).length c286_2) ∧ w'.cell? (ad296.add (x10_2).toNat) = some (.int .i64 (rd ((rd_T59 l0_1 a2).f1) x10_2)) ∧ w'.cell? (ad297.add (x10_2).toNat) = some (.slice A297_0 (rd_L3 ((rd_T59 l0_1 a2).f2) x10_2).length c297_0)) (ds := [14]) (ms 15 0) (by kernel_rfl) rfl rfl ⟨(blk_cell BK287.out 0).trans rfl, (blk_cell BK287.out 1).trans rfl, (blk_cell BK287.out 2).trans rfl, ((HB.out.cell (World.block_lt_of_cell? w _ hw296_0)).trans hw296_0), ((HB.out.cell (World.block_lt_of_cell? w _ hw297_0)).trans hw297_0)⟩ (fun hHeld => ?_); refine with_tabW spec_l2Use.tab12 spec_l2Use.bits12 (fun HT_ HW_ => ?_)
              generalize wr.drew = w35 at HO_8 BK285 BK287 HB HR297_0 hx296_0 hx297_0 hHeld ⊢
              refine pure_ (i := 0) (N := some 42) (v := ?_) (a' := ?_) (ms 15 1) rfl rfl (any_of HT_.out (by kernel_rfl)) (fun _ _ _ h => h) (Or.inl ⟨by rfl, ?_⟩) ?_ ?_
              rotate_left
              ·intro w'
               go_simp
               with_reducible rfl
              rotate_left
              ·simp only [Act.put, List.setIfInBounds_toArray, List.set_cons_zero, List.set_cons_succ, i64_w]
               rfl
              refine pure_ (i := 1) (N := some 43) (v := ?_) (a' := ?_) (ms 15 3) rfl rfl (any_of HT_.out (by kernel_rfl)) (fun _ _ _ h => h) (Or.inl ⟨by rfl, ?_⟩) ?_ ?_
              rotate_left
              ·intro w'
               go_simp
               with_reducible rfl
              rotate_left
              ·simp only [Act.put, List.setIfInBounds_toArray, List.set_cons_zero, List.set_cons_succ, i64_w]
               rfl
              refine pure_ (i := 3) (N := some 45) (v := ?_) (a' := ?_) (ms 15 11) rfl rfl (any_of HT_.out (by kernel_rfl)) (fun _ _ _ h => h) (Or.inl ⟨by rfl, ?_⟩) ?_ ?_
              rotate_left
              ·intro w'
               go_simp
               with_reducible rfl
              rotate_left
              ·simp only [Act.put, List.setIfInBounds_toArray, List.set_cons_zero, List.set_cons_succ, i64_w]
               rfl
              refine pure_ (i := 6) (N := some 48) (v := ?_) (a' := ?_) (ms 15 75) rfl rfl (any_of HT_.out (by kernel_rfl)) (fun _ _ _ h => h) (Or.inl ⟨by rfl, ?_⟩) ?_ ?_
              rotate_left
              ·intro w'
               go_simp
               with_reducible rfl
              rotate_left
              ·simp only [Act.put, List.setIfInBounds_toArray, List.set_cons_zero, List.set_cons_succ, i64_w]
               rfl
              refine pure_ (i := 8) (N := some 50) (v := ?_) (a' := ?_) (ms 15 331) rfl rfl (any_of HT_.out (by kernel_rfl)) (fun _ _ _ h => h) (Or.inl ⟨by rfl, ?_⟩) ?_ ?_
              rotate_left
              ·intro w'
               go_simp
               with_reducible rfl
              rotate_left
              ·simp only [Act.put, List.setIfInBounds_toArray, List.set_cons_zero, List.set_cons_succ, i64_w]
               rfl
              refine pure_ (i := 11) (N := some 53) (v := ?_) (a' := ?_) (ms 15 2379) rfl rfl (any_of HT_.out (by kernel_rfl)) (fun _ _ _ h => h) (Or.inl ⟨by rfl, ?_⟩) ?_ ?_
              rotate_left
              ·intro w'
               go_simp
               with_reducible rfl
              rotate_left
              ·simp only [Act.put, List.setIfInBounds_toArray, List.set_cons_zero, List.set_cons_succ, i64_w]
               rfl
              refine take_ (i := 2) (N := some 44) (v := ?_) (a' := ?_) (ms 15 2383) rfl rfl (take_ofW HT_.out HW_.out (by kernel_rfl)) (fun _ _ _ h => h) (Or.inl ⟨by rfl, ?_⟩) hHeld ?_ ?_
              rotate_left
              ·rintro w' ⟨s0, s1, s2, s3, s4⟩
               go_simp
               with_reducible rfl
              rotate_left
              ·simp only [Act.put, List.setIfInBounds_toArray, List.set_cons_zero, List.set_cons_succ, i64_w]
               rfl
              refine pure_ (i := 4) (N := some 46) (v := ?_) (a' := ?_) (ms 15 2399) rfl rfl (any_of HT_.out (by kernel_rfl)) (fun _ _ _ h => h) (Or.inl ⟨by rfl, ?_⟩) ?_ ?_
              rotate_left
              ·intro w'
               go_simp
               with_reducible rfl
              rotate_left
              ·simp only [Act.put, List.setIfInBounds_toArray, List.set_cons_zero, List.set_cons_succ, i64_w]
               rfl
              refine take_ (i := 5) (N := some 47) (v := ?_) (a' := ?_) (ms 15 2431) rfl rfl (take_ofW HT_.out HW_.out (by kernel_rfl)) (fun _ _ _ h => h) (Or.inl ⟨by rfl, ?_⟩) hHeld ?_ ?_
              rotate_left
              ·rintro w' ⟨s0, s1, s2, s3, s4⟩
               go_simp
               with_reducible rfl
              rotate_left
              ·simp only [Act.put, List.setIfInBounds_toArray, List.set_cons_zero, List.set_cons_succ, i64_w]
               rfl
              refine take_ (i := 7) (N := some 49) (v := ?_) (a' := ?_) (ms 15 2559) rfl rfl (take_ofW HT_.out HW_.out (by kernel_rfl)) (fun _ _ _ h => h) (Or.inl ⟨by rfl, ?_⟩) hHeld ?_ ?_
              rotate_left
              ·rintro w' ⟨s0, s1, s2, s3, s4⟩
               go_simp
               with_reducible rfl
              rotate_left
              ·simp only [Act.put, List.setIfInBounds_toArray, List.set_cons_zero, List.set_cons_succ, i64_w]
               rfl
              refine pure_ (i := 9) (N := some 51) (v := ?_) (a' := ?_) (ms 15 3071) rfl rfl (any_of HT_.out (by kernel_rfl)) (fun _ _ _ h => h) (Or.inl ⟨by rfl, ?_⟩) ?_ ?_
              rotate_left
              ·intro w'
               go_simp
               with_reducible rfl
              rotate_left
              ·simp only [Act.put, List.setIfInBounds_toArray, List.set_cons_zero, List.set_cons_succ, i64_w]
               rfl
              refine take_ (i := 10) (N := some 52) (v := ?_) (a' := ?_) (ms 15 4095) rfl rfl (take_ofW HT_.out HW_.out (by kernel_rfl)) (fun _ _ _ h => h) (Or.inl ⟨by rfl, ?_⟩) hHeld ?_ ?_
              rotate_left
              ·rintro w' ⟨s0, s1, s2, s3, s4⟩
               go_simp
               with_reducible rfl
              rotate_left
              ·simp only [Act.put, List.setIfInBounds_toArray, List.set_cons_zero, List.set_cons_succ, i64_w]
               rfl
              refine one_ (i := 12) (N := some 54) (ms 15 8191) rfl rfl (one_of HT_.out (by kernel_rfl)) (by decide) (fun K hK => ?_)
              refine goes_ Try.func40 (by kernel_rfl) rfl #[.slice A297_0 (rd_L3 ((rd_T59 l0_1 a2).f2) x10_2).length c297_0, .slice A1 l1.length c1] (by rfl) rfl rfl (by (try simp only [List.map_toArray, List.map_cons, List.map_nil]); first | done | rfl | (simp only [List.length_drop, List.length_take]; rfl)) ?_
              with_reducible refine (spec_l2Last.calls k2 _ _ (rd_L3 ((rd_T59 l0_1 a2).f2) x10_2) _ _ l1 t298 _ ?side1 ?side2 ?side3 ?side4 A29.out).mono ?_
              (case side1 => repeat (first | exact (Kd.C_below HR297_0.out HB.out) | (with_reducible refine Kd.C_alloc ?_ _) | (with_reducible refine Kd.C_drewN ?_ _) | (with_reducible refine Kd.C_drew ?_)))
              (case side2 => exact HC297_0.out)
              (case side3 => repeat (first | exact (Kd.C_below HR1.out HB.out) | (with_reducible refine Kd.C_alloc ?_ _) | (with_reducible refine Kd.C_drewN ?_ _) | (with_reducible refine Kd.C_drew ?_)))
              (case side4 => exact HC1.out)
              rintro e w36 ⟨rfl, hb⟩
              refine ⟨_, rfl, ?_⟩
              have n0_ := Aside0.mk (Kd.R_below (by (with_reducible repeat (first | apply Kd.R_alloc | apply Kd.R_drewN | apply Kd.R_drew)); exact HO_8.out) hb)
              have n1_ := Aside0.mk (blk_below (g := gb285) (o := .cells #[.slice A0_0 l0_0.length c0_0, .slice (some ad286) l0_1.length c0_1] 35 (0, 0)) (by (with_reducible repeat (first | refine blk_drewN ?_ _ | refine blk_drew ?_ | refine blk_alloc ?_ _)); exact BK285.out) hb)
              have n2_ := Aside0.mk (blk_below (g := gb287) (o := .cells #[.slice A286_0 ((rd_T59 l0_1 a2).f0).length c286_0, .slice (some ad296) ((rd_T59 l0_1 a2).f1).length c286_1, .slice (some ad297) ((rd_T59 l0_1 a2).f2).length c286_2] 59 (0, 0)) (by (with_reducible repeat (first | refine blk_drewN ?_ _ | refine blk_drew ?_ | refine blk_alloc ?_ _)); exact BK287.out) hb)
              have n3_ := Aside0.mk (below_step (by repeat (first | (with_reducible first | exact HB.out | apply below_alloc | apply pw_below_drewN | apply below_drew1 | refine below_set ?_ GE285.out | refine below_set ?_ GE287.out) | exact HB.out)) hb)
              clear HO_8
              clear BK285
              clear BK287
              clear HB
              have HO_8 := n0_
              have BK285 := n1_
              have BK287 := n2_
              have HB := n3_
              clear n0_ n1_ n2_ n3_
              (try clear hb)
              (try clear hb2)
              (try clear hk)
              (try clear hi)
              have p32 : 0 ≤ ((rd ((rd_T59 l0_1 a2).f1) x10_2) : Int) := of_decide_eq_true (by first | (with_reducible assumption) | assumption)
              have q32 : ((rd ((rd_T59 l0_1 a2).f1) x10_2) : Int) < ((x8_2.length : Int) : Int) := of_decide_eq_true (by first | (with_reducible assumption) | assumption)
              obtain ⟨go32, co32, eo32, gb32, gl32, cl32, HG32⟩ := Kd.R_form HO_8.out (by first | omega | (have hl_ := (Kd.R_reads' HO_8.out).1; omega))
              (first | cases eo32 | (injection eo32 with ea_ en_ ec_; (first | subst ea_ | (injection ea_ with ea_; subst ea_)); subst ec_; clear en_))
              have GB32 := Aside0.mk gb32
              have GG32 := Aside0.mk HG32
              clear gb32 gl32 HG32
              obtain ⟨hx32_0, hf32_0⟩ := Kd.R_celln 0 HO_8.out ((rd ((rd_T59 l0_1 a2).f1) x10_2) : Int) p32 q32
              replace p32 := eq_true p32
              replace q32 := eq_true q32
              have HP37 := Kd.R_putn HO_8.out ((rd ((rd_T59 l0_1 a2).f1) x10_2) : Int) t298
              rw [← Ny299.out] at HP37
              have HQ37 := Aside0.mk HP37
              clear HP37
              refine hK.out _ _ ⟨(blk_cell BK287.out 0).trans rfl, (blk_cell BK287.out 1).trans rfl, (blk_cell BK287.out 2).trans rfl, ((HB.out.cell (World.block_lt_of_cell? w _ hw296_0)).trans hw296_0), ((HB.out.cell (World.block_lt_of_cell? w _ hw297_0)).trans hw297_0)⟩ (fun hHeld => ?_)
              clear hK K
              refine norm_ (a' := ?_) ?_ ?_
              rotate_left
              ·show Act.put _ (some 54) _ = _
               simp only [Act.put, List.setIfInBounds_toArray, List.set_cons_zero, List.set_cons_succ, i64_w]
               rfl
              refine pure_ (i := 13) (N := some 55) (v := ?_) (a' := ?_) (ms 15 16383) rfl rfl (any_of HT_.out (by kernel_rfl)) (fun _ _ _ h => h) (Or.inl ⟨by rfl, ?_⟩) ?_ ?_
              rotate_left
              ·intro w'
               go_simp
               with_reducible rfl
              rotate_left
              ·simp only [Act.put, List.setIfInBounds_toArray, List.set_cons_zero, List.set_cons_succ, i64_w]
               rfl
              refine last_ (i := 14) (N := none) (ms 15 32767) rfl rfl (one_of HT_.out (by kernel_rfl)) (by decide) (fun K hK => ?_)
              refine skip_ (w1 := ?_) (by rfl) rfl ?_ ?_
              rotate_left
              ·go_simp
               rfl
              refine hK.out _ _ ?_
              clear hK K
              refine done_ (done_of HT_.out (by kernel_rfl)) ?_
              try go_wp2
              go_roundg k2
              case measure => have := HK1.out; have := HK2.out; omega
              case rel => exact ⟨(y299), (wrap64 (x10_2 + 1)), (by first | rfl | (simp; done) | (simp [*]; done)), H', ⟨by have := HK1.out; have := HK2.out; omega⟩, ⟨by (with_reducible repeat (first | apply Kd.R_alloc | apply Kd.R_drewN | apply Kd.R_drew)); exact HQ37.out⟩, ⟨by (with_reducible repeat (first | refine blk_drewN ?_ _ | refine blk_drew ?_ | refine blk_alloc ?_ _)); refine blk_far ?_ (by have h_ := Kd.R_ne HO_8.out BK285.out (by decide); intro e_; exact h_ (by rw [e_]; rfl)) _; (with_reducible repeat (first | refine blk_drewN ?_ _ | refine blk_drew ?_ | refine blk_alloc ?_ _)); exact BK285.out⟩, ⟨by (with_reducible repeat (first | refine blk_drewN ?_ _ | refine blk_drew ?_ | refine blk_alloc ?_ _)); refine blk_far ?_ (by have h_ := Kd.R_ne HO_8.out BK287.out (by decide); intro e_; exact h_ (by rw [e_]; rfl)) _; (with_reducible repeat (first | refine blk_drewN ?_ _ | refine blk_drew ?_ | refine blk_alloc ?_ _)); exact BK287.out⟩, ⟨by repeat (first | (with_reducible first | exact HB.out | apply below_alloc | apply pw_below_drewN | apply below_drew1 | refine below_set ?_ GB32.out | refine below_set ?_ GE285.out | refine below_set ?_ GE287.out) | exact HB.out)⟩⟩
             ·rw [if_neg c31] at H
              exact absurd H (by simp)
            ·rw [if_neg c30] at H
             exact absurd H (by simp)
           ·rw [if_neg c28] at H
            exact absurd H (by simp)
          ·rw [if_neg c27] at H
           exact absurd H (by simp)
         ·rw [if_neg c26] at H
          have c26b0 : decide (x10_2 < (((rd_T59 l0_1 a2).f1).length : Int)) = false := decide_eq_false c26
          clear c26
          replace H := Option.bind_eq_some_iff.mp H
          obtain ⟨t300, A380, H⟩ := H
          replace H : (if t300 = true then (some x8_2) else (some ([] : List Int))) = some r := H
          have A38 := Aside0.mk A380
          clear A380
          by_cases c39 : t300 = true
          ·subst c39
           have H1 : (some x8_2) = some r := by rw [if_pos rfl] at H; exact H
           clear H
           have H := H1
           clear H1
           obtain rfl := Option.some.inj H
           have hnb40 := NB287_285.out
           have hnc40 := NB285_287.out
           have hcz41_0 : wr.cell? ⟨gb287, 0, none⟩ = some (.slice A286_0 ((rd_T59 l0_1 a2).f0).length c286_0) := (blk_cell BK287.out 0).trans rfl
           have hcz41_1 : wr.cell? ⟨gb287, 1, none⟩ = some (.slice A286_1 ((rd_T59 l0_1 a2).f1).length c286_1) := (blk_cell BK287.out 1).trans rfl
           have hcz41_2 : wr.cell? ⟨gb287, 2, none⟩ = some (.slice A286_2 ((rd_T59 l0_1 a2).f2).length c286_2) := (blk_cell BK287.out 2).trans rfl
           have hfz41_0 := blk_frozen BK287.out 0
           have hfz41_1 := blk_frozen BK287.out 1
           have hfz41_2 := blk_frozen BK287.out 2
           have hcz42_0 : wr.cell? ⟨gb285, 0, none⟩ = some (.slice A0_0 l0_0.length c0_0) := (blk_cell BK285.out 0).trans rfl
           have hcz42_1 : wr.cell? ⟨gb285, 1, none⟩ = some (.slice (some ad286) l0_1.length c0_1) := (blk_cell BK285.out 1).trans rfl
           have hfz42_0 := blk_frozen BK285.out 0
           have hfz42_1 := blk_frozen BK285.out 1
           obtain ⟨Ao43, co43, eo43⟩ := Kd.R_slice HO_8.out
           subst eo43
           go_wp2_with (first | ((with_reducible refine gate_callee (f := 41) rfl ?_); refine goesL_ (some 58) rfl rfl Try.func41 (by kernel_rfl) rfl #[.agg #[.slice A0_0 l0_0.length c0_0, .slice (some ad286) l0_1.length c0_1], .slice Ao43 x8_2.length co43] rfl (by (try simp only [List.map_toArray, List.map_cons, List.map_nil]); first | done | rfl | (simp only [List.length_drop, List.length_take]; rfl)) ?_; (with_reducible refine (spec_l2In.calls k2 _ _ l0_0 _ _ l0_1 _ _ x8_2 true _ ?side1 ?side2 ?side3 ?side4 ?side5 ?side6 A38.out).mono ?_); (case side1 => repeat (first | exact (Kd.C_below HR0_0.out HB.out) | (with_reducible refine Kd.C_alloc ?_ _) | (with_reducible refine Kd.C_drewN ?_ _) | (with_reducible refine Kd.C_drew ?_))); (case side2 => exact HC0_0.out); (case side3 => repeat (first | exact (Kd.C_below HR0_1.out HB.out) | (with_reducible refine Kd.C_alloc ?_ _) | (with_reducible refine Kd.C_drewN ?_ _) | (with_reducible refine Kd.C_drew ?_))); (case side4 => exact HC0_1.out); (case side5 => repeat (first | exact (Kd.R_reads' HO_8.out).2.2 | (with_reducible refine Kd.C_alloc ?_ _) | (with_reducible refine Kd.C_drewN ?_ _) | (with_reducible refine Kd.C_drew ?_))); (case side6 => exact (Kd.R_reads' HO_8.out).2.1); rintro e w44 ⟨rfl, hb⟩; refine ⟨_, rfl, ?_⟩; have n0_ := Aside0.mk (Kd.R_below (by (with_reducible repeat (first | apply Kd.R_alloc | apply Kd.R_drewN | apply Kd.R_drew)); exact HO_8.out) hb); have n1_ := Aside0.mk (blk_below (g := gb285) (o := .cells #[.slice A0_0 l0_0.length c0_0, .slice (some ad286) l0_1.length c0_1] 35 (0, 0)) (by (with_reducible repeat (first | refine blk_drewN ?_ _ | refine blk_drew ?_ | refine blk_alloc ?_ _)); exact BK285.out) hb); have n2_ := Aside0.mk (blk_below (g := gb287) (o := .cells #[.slice A286_0 ((rd_T59 l0_1 a2).f0).length c286_0, .slice A286_1 ((rd_T59 l0_1 a2).f1).length c286_1, .slice A286_2 ((rd_T59 l0_1 a2).f2).length c286_2] 59 (0, 0)) (by (with_reducible repeat (first | refine blk_drewN ?_ _ | refine blk_drew ?_ | refine blk_alloc ?_ _)); exact BK287.out) hb); have n3_ := Aside0.mk (below_step (by repeat (first | (with_reducible first | exact HB.out | apply below_alloc | apply pw_below_drewN | apply below_drew1 | refine below_set ?_ GE285.out | refine below_set ?_ GE287.out) | exact HB.out)) hb); clear HO_8; clear BK285; clear BK287; clear HB; have HO_8 := n0_; have BK285 := n1_; have BK287 := n2_; have HB := n3_; clear n0_ n1_ n2_ n3_; (try clear hb); (try clear hb2); (try clear hk); (try clear hi)))
           go_ret
           exact ⟨_, by first | rfl | (simp [errW_none, errW_some] <;> rfl) | (simp [*, errW_none, errW_some] <;> rfl), by (with_reducible repeat (first | apply Kd.R_alloc | apply Kd.R_drewN | apply Kd.R_drew)); exact HO_8.out, by repeat (first | (with_reducible first | exact HB.out | apply below_alloc | apply pw_below_drewN | apply below_drew1 | refine below_set ?_ GE285.out | refine below_set ?_ GE287.out) | exact HB.out)⟩
          ·replace c39 := Bool.eq_false_iff.mpr c39
           subst c39
           have H1 : (some ([] : List Int)) = some r := by rw [if_neg (show ¬ (false = true) by decide)] at H; exact H
           clear H
           have H := H1
           clear H1
           obtain rfl := Option.some.inj H
           have hnb45 := NB287_285.out
           have hnc45 := NB285_287.out
           have hcz46_0 : wr.cell? ⟨gb287, 0, none⟩ = some (.slice A286_0 ((rd_T59 l0_1 a2).f0).length c286_0) := (blk_cell BK287.out 0).trans rfl
           have hcz46_1 : wr.cell? ⟨gb287, 1, none⟩ = some (.slice A286_1 ((rd_T59 l0_1 a2).f1).length c286_1) := (blk_cell BK287.out 1).trans rfl
           have hcz46_2 : wr.cell? ⟨gb287, 2, none⟩ = some (.slice A286_2 ((rd_T59 l0_1 a2).f2).length c286_2) := (blk_cell BK287.out 2).trans rfl
           have hfz46_0 := blk_frozen BK287.out 0
           have hfz46_1 := blk_frozen BK287.out 1
           have hfz46_2 := blk_frozen BK287.out 2
           have hcz47_0 : wr.cell? ⟨gb285, 0, none⟩ = some (.slice A0_0 l0_0.length c0_0) := (blk_cell BK285.out 0).trans rfl
           have hcz47_1 : wr.cell? ⟨gb285, 1, none⟩ = some (.slice (some ad286) l0_1.length c0_1) := (blk_cell BK285.out 1).trans rfl
           have hfz47_0 := blk_frozen BK285.out 0
           have hfz47_1 := blk_frozen BK285.out 1
           obtain ⟨Ao48, co48, eo48⟩ := Kd.R_slice HO_8.out
           subst eo48
           go_wp2_with (first | ((with_reducible refine gate_callee (f := 41) rfl ?_); refine goesL_ (some 58) rfl rfl Try.func41 (by kernel_rfl) rfl #[.agg #[.slice A0_0 l0_0.length c0_0, .slice (some ad286) l0_1.length c0_1], .slice Ao48 x8_2.length co48] rfl (by (try simp only [List.map_toArray, List.map_cons, List.map_nil]); first | done | rfl | (simp only [List.length_drop, List.length_take]; rfl)) ?_; (with_reducible refine (spec_l2In.calls k2 _ _ l0_0 _ _ l0_1 _ _ x8_2 false _ ?side1 ?side2 ?side3 ?side4 ?side5 ?side6 A38.out).mono ?_); (case side1 => repeat (first | exact (Kd.C_below HR0_0.out HB.out) | (with_reducible refine Kd.C_alloc ?_ _) | (with_reducible refine Kd.C_drewN ?_ _) | (with_reducible refine Kd.C_drew ?_))); (case side2 => exact HC0_0.out); (case side3 => repeat (first | exact (Kd.C_below HR0_1.out HB.out) | (with_reducible refine Kd.C_alloc ?_ _) | (with_reducible refine Kd.C_drewN ?_ _) | (with_reducible refine Kd.C_drew ?_))); (case side4 => exact HC0_1.out); (case side5 => repeat (first | exact (Kd.R_reads' HO_8.out).2.2 | (with_reducible refine Kd.C_alloc ?_ _) | (with_reducible refine Kd.C_drewN ?_ _) | (with_reducible refine Kd.C_drew ?_))); (case side6 => exact (Kd.R_reads' HO_8.out).2.1); rintro e w49 ⟨rfl, hb⟩; refine ⟨_, rfl, ?_⟩; have n0_ := Aside0.mk (Kd.R_below (by (with_reducible repeat (first | apply Kd.R_alloc | apply Kd.R_drewN | apply Kd.R_drew)); exact HO_8.out) hb); have n1_ := Aside0.mk (blk_below (g := gb285) (o := .cells #[.slice A0_0 l0_0.length c0_0, .slice (some ad286) l0_1.length c0_1] 35 (0, 0)) (by (with_reducible repeat (first | refine blk_drewN ?_ _ | refine blk_drew ?_ | refine blk_alloc ?_ _)); exact BK285.out) hb); have n2_ := Aside0.mk (blk_below (g := gb287) (o := .cells #[.slice A286_0 ((rd_T59 l0_1 a2).f0).length c286_0, .slice A286_1 ((rd_T59 l0_1 a2).f1).length c286_1, .slice A286_2 ((rd_T59 l0_1 a2).f2).length c286_2] 59 (0, 0)) (by (with_reducible repeat (first | refine blk_drewN ?_ _ | refine blk_drew ?_ | refine blk_alloc ?_ _)); exact BK287.out) hb); have n3_ := Aside0.mk (below_step (by repeat (first | (with_reducible first | exact HB.out | apply below_alloc | apply pw_below_drewN | apply below_drew1 | refine below_set ?_ GE285.out | refine below_set ?_ GE287.out) | exact HB.out)) hb); clear HO_8; clear BK285; clear BK287; clear HB; have HO_8 := n0_; have BK285 := n1_; have BK287 := n2_; have HB := n3_; clear n0_ n1_ n2_ n3_; (try clear hb); (try clear hb2); (try clear hk); (try clear hi)))
           go_ret
           exact ⟨_, by first | rfl | (simp [errW_none, errW_some] <;> rfl) | (simp [*, errW_none, errW_some] <;> rfl), by first | exact Kd.R_nil _ _ _ _ _ | exact Kd.N_nil _ _ _ _ _ | exact Kd.V_nil _ _ _ _ _ | exact Kd.Q_nil _ _ _ _ _ | exact Kd.S_nil _ _ _ _ _, by repeat (first | (with_reducible first | exact HB.out | apply below_alloc | apply pw_below_drewN | apply below_drew1 | refine below_set ?_ GE285.out | refine below_set ?_ GE287.out) | exact HB.out)⟩
  ·rw [if_neg c5] at H
   exact absurd H (by simp)
 ·rw [if_neg c4] at H
  exact absurd H (by simp)

/-! ### spec_l2Less: function 42 -/
mutual
def spec_l2Less.l0 : Nat → List Int → List Int → Int → Option (Bool)
 | 0, _, _, _ => none
 | k + 1, x0, x1, x5 => if x5 < (x0.length : Int) then (spec_l2Less.j1 k x0 x1 x5 (decide (x5 < (x1.length : Int)))) else (spec_l2Less.j1 k x0 x1 x5 false)
def spec_l2Less.j1 : Nat → List Int → List Int → Int → Bool → Option (Bool)
 | 0, _, _, _, _ => none
 | k + 1, x0, x1, x5, x15 => if x15 = true then (if 0 ≤ x5 then (if x5 < (x0.length : Int) then (if x5 < (x1.length : Int) then (if (rd x0 x5) = (rd x1 x5) then (spec_l2Less.l0 k x0 x1 (wrap64 (x5 + 1))) else (some (decide ((rd x0 x5) < (rd x1 x5))))) else (none)) else (none)) else (none)) else (some (decide ((x0.length : Int) < (x1.length : Int))))
end
def spec_l2Less.f (k : Nat) (l0 : List Int) (l1 : List Int) : Option (Bool) := spec_l2Less.l0 k l0 l1 0
set_option maxHeartbeats 8000000 in
set_option maxRecDepth 100000 in
theorem spec_l2Less.calls (k : Nat) (A0 : Option Addr) (c0 : Nat) (l0 : List Int) (A1 : Option Addr) (c1 : Nat) (l1 : List Int) (r : Bool) (w : World) (hr0 : Kd.C (Kd.int .i64) w A0 l0.length l0) (hc0 : l0.length ≤ c0) (hr1 : Kd.C (Kd.int .i64) w A1 l1.length l1) (hc1 : l1.length ≤ c1) (h : spec_l2Less.f k l0 l1 = some r) :
  Calls Try.prog 42 #[.slice A0 l0.length c0, .slice A1 l1.length c1] w fun e w' => e = .returned (.bool r) ∧ Drawn0 w w' := by
 have HR0 := Aside0.mk hr0
 have HC0 := Aside0.mk hc0
 clear hr0 hc0
 have HR1 := Aside0.mk hr1
 have HC1 := Aside0.mk hc1
 clear hr1 hc1
 have H : (spec_l2Less.l0 k l0 l1 0) = some r := h
 clear h
 have H' := Aside0.mk H
 clear H
 go_enter Try.func42, Try.ntmps42
 go_wp2
 repeat (go_quiet (fail); try go_wp2)
 go_loopg [5] k (fun kq v5 w' => ∃ (x5_1 : Int), v5 = .int .i64 x5_1 ∧ Aside0 (spec_l2Less.l0 kq l0 l1 x5_1 = some r) ∧ Aside0 (kq ≤ k) ∧ Drawn0 w w')
 case atStart => exact ⟨(0), (by first | rfl | (simp; done) | (simp [*]; done)), H', ⟨Nat.le_refl _⟩, by repeat (first | exact Drawn0.refl _ | apply Drawn0.step)⟩
 case round =>
  clear H'
  try clear c1
  try clear p2
  obtain ⟨x5_1, rfl, HA, HK1, ⟨m1, rfl⟩⟩ := hrel
  cases gk with
  | zero => exact absurd HA.out (by simp [spec_l2Less.l0])
  | succ k1 =>
   have H := HA.out
   clear HA
   simp only [spec_l2Less.l0] at H
   have HC3 := Aside0.mk H
   clear H
   go_upto_region 2 with (fail)
   repeat (go_quiet (fail); go_upto_region 2 with (fail))
   go_cut [15] (fun v15 wc => ∃ (kq : Nat) (x15_2 : Bool), v15 = .bool x15_2 ∧ Aside0 (spec_l2Less.j1 kq l0 l1 x5_1 x15_2 = some r) ∧ Aside0 (kq ≤ k1) ∧ Drawn0 w wc)
   case first =>
    have H := HC3.out
    clear HC3
    by_cases c4 : x5_1 < (l0.length : Int)
    ·rw [if_pos c4] at H
     have c4b0 : decide (x5_1 < (l0.length : Int)) = true := decide_eq_true c4
     clear c4
     (first | rw [c4b0] | (simp only [i64_w]; rw [c4b0]) | rw [c4b1] | simp only [c4b1] | skip)
     have H' := Aside0.mk H
     clear H
     go_wp2
     repeat (go_quiet (fail); try go_wp2)
     go_meet
     case rel => exact ⟨_, (decide (x5_1 < (l1.length : Int))), (by first | rfl | (simp; done) | (simp [*]; done)), H', ⟨by have := HK1.out; first | omega | exact Nat.le_refl _⟩, by repeat (first | exact Drawn0.refl _ | apply Drawn0.step)⟩
    ·rw [if_neg c4] at H
     have c4b0 : decide (x5_1 < (l0.length : Int)) = false := decide_eq_false c4
     clear c4
     (first | rw [c4b0] | (simp only [i64_w]; rw [c4b0]) | rw [c4b1] | simp only [c4b1] | skip)
     have H' := Aside0.mk H
     clear H
     go_wp2
     repeat (go_quiet (fail); try go_wp2)
     go_meet
     case rel => exact ⟨_, (false), (by first | rfl | (simp; done) | (simp [*]; done)), H', ⟨by have := HK1.out; first | omega | exact Nat.le_refl _⟩, by repeat (first | exact Drawn0.refl _ | apply Drawn0.step)⟩
   case rest =>
    clear HC3
    try clear c1
    try clear p2
    try clear c4
    try clear c4b0
    try clear c4b1
    try clear p2
    obtain ⟨kq, x15_2, rfl, HA, HJ2, ⟨mc2, rfl⟩⟩ := hcut
    cases kq with
    | zero => exact absurd HA.out (by simp [spec_l2Less.j1])
    | succ kj2 =>
     have H := HA.out
     clear HA
     simp only [spec_l2Less.j1] at H
     by_cases c5 : x15_2 = true
     ·subst c5
      have H1 : (if 0 ≤ x5_1 then (if x5_1 < (l0.length : Int) then (if x5_1 < (l1.length : Int) then (if (rd l0 x5_1) = (rd l1 x5_1) then (spec_l2Less.l0 kj2 l0 l1 (wrap64 (x5_1 + 1))) else (some (decide ((rd l0 x5_1) < (rd l1 x5_1))))) else (none)) else (none)) else (none)) = some r := by rw [if_pos rfl] at H; exact H
      clear H
      have H := H1
      clear H1
      by_cases c6 : 0 ≤ x5_1
      ·rw [if_pos c6] at H
       have c6b0 : decide (0 ≤ x5_1) = true := decide_eq_true c6
       clear c6
       by_cases c7 : x5_1 < (l0.length : Int)
       ·rw [if_pos c7] at H
        have c7b0 : decide (x5_1 < (l0.length : Int)) = true := decide_eq_true c7
        clear c7
        by_cases c8 : x5_1 < (l1.length : Int)
        ·rw [if_pos c8] at H
         have c8b0 : decide (x5_1 < (l1.length : Int)) = true := decide_eq_true c8
         clear c8
         by_cases c9 : (rd l0 x5_1) = (rd l1 x5_1)
         ·rw [if_pos c9] at H
          have c9b0 : ((rd l0 x5_1) == (rd l1 x5_1)) = true := beq_iff_eq.mpr c9
          have c9b1 : ((rd l0 x5_1) != (rd l1 x5_1)) = false := bne_eq_false_iff_eq.mpr c9
          clear c9
          have H' := Aside0.mk H
          clear H
          have p301 : 0 ≤ (x5_1 : Int) := of_decide_eq_true (by first | (with_reducible assumption) | assumption)
          have q301 : x5_1 < (l0.length : Int) := of_decide_eq_true (by first | (with_reducible assumption) | assumption)
          obtain ⟨ad301, e301, hx301_0⟩ := Kd.at_int HR0.out x5_1 p301 q301
          cases e301
          replace p301 := eq_true p301
          replace q301 := eq_true q301
          have p302 : 0 ≤ (x5_1 : Int) := of_decide_eq_true (by first | (with_reducible assumption) | assumption)
          have q302 : x5_1 < (l1.length : Int) := of_decide_eq_true (by first | (with_reducible assumption) | assumption)
          obtain ⟨ad302, e302, hx302_0⟩ := Kd.at_int HR1.out x5_1 p302 q302
          cases e302
          replace p302 := eq_true p302
          replace q302 := eq_true q302
          go_wp2
          repeat (go_quiet (fail); try go_wp2)
          go_roundg kj2
          case measure => have := HK1.out; have := HJ2.out; omega
          case rel => exact ⟨(wrap64 (x5_1 + 1)), (by first | rfl | (simp; done) | (simp [*]; done)), H', ⟨by have := HK1.out; have := HJ2.out; omega⟩, by repeat (first | exact Drawn0.refl _ | apply Drawn0.step)⟩
         ·rw [if_neg c9] at H
          have c9b0 : ((rd l0 x5_1) == (rd l1 x5_1)) = false := beq_eq_false_iff_ne.mpr c9
          have c9b1 : ((rd l0 x5_1) != (rd l1 x5_1)) = true := bne_iff_ne.mpr c9
          obtain rfl := Option.some.inj H
          have p301 : 0 ≤ (x5_1 : Int) := of_decide_eq_true (by first | (with_reducible assumption) | assumption)
          have q301 : x5_1 < (l0.length : Int) := of_decide_eq_true (by first | (with_reducible assumption) | assumption)
          obtain ⟨ad301, e301, hx301_0⟩ := Kd.at_int HR0.out x5_1 p301 q301
          cases e301
          replace p301 := eq_true p301
          replace q301 := eq_true q301
          have p302 : 0 ≤ (x5_1 : Int) := of_decide_eq_true (by first | (with_reducible assumption) | assumption)
          have q302 : x5_1 < (l1.length : Int) := of_decide_eq_true (by first | (with_reducible assumption) | assumption)
          obtain ⟨ad302, e302, hx302_0⟩ := Kd.at_int HR1.out x5_1 p302 q302
          cases e302
          replace p302 := eq_true p302
          replace q302 := eq_true q302
          have p303 : 0 ≤ (x5_1 : Int) := of_decide_eq_true (by first | (with_reducible assumption) | assumption)
          have q303 : x5_1 < (l0.length : Int) := of_decide_eq_true (by first | (with_reducible assumption) | assumption)
          obtain ⟨ad303, e303, hx303_0⟩ := Kd.at_int HR0.out x5_1 p303 q303
          obtain rfl : ad301 = ad303 := (by injection e303)
          replace p303 := eq_true p303
          replace q303 := eq_true q303
          have p304 : 0 ≤ (x5_1 : Int) := of_decide_eq_true (by first | (with_reducible assumption) | assumption)
          have q304 : x5_1 < (l1.length : Int) := of_decide_eq_true (by first | (with_reducible assumption) | assumption)
          obtain ⟨ad304, e304, hx304_0⟩ := Kd.at_int HR1.out x5_1 p304 q304
          obtain rfl : ad302 = ad304 := (by injection e304)
          replace p304 := eq_true p304
          replace q304 := eq_true q304
          go_wp2
          repeat (go_quiet (fail); try go_wp2)
          go_ret
          exact ⟨by first | rfl | (simp; done) | (simp [*]; done), by repeat (first | exact Drawn0.refl _ | apply Drawn0.step)⟩
        ·rw [if_neg c8] at H
         exact absurd H (by simp)
       ·rw [if_neg c7] at H
        exact absurd H (by simp)
      ·rw [if_neg c6] at H
       exact absurd H (by simp)
     ·replace c5 := Bool.eq_false_iff.mpr c5
      subst c5
      have H1 : (some (decide ((l0.length : Int) < (l1.length : Int)))) = some r := by rw [if_neg (show ¬ (false = true) by decide)] at H; exact H
      clear H
      have H := H1
      clear H1
      obtain rfl := Option.some.inj H
      go_wp2
      repeat (go_quiet (fail); try go_wp2)
      go_ret
      exact ⟨by first | rfl | (simp; done) | (simp [*]; done), by repeat (first | exact Drawn0.refl _ | apply Drawn0.step)⟩

-- NOT PRINTED: function 36 (spec_l2Put)

-- NOT PRINTED: function 32 (spec_l2Next)

-- NOT PRINTED: function 24 (spec_l3Lasso)

-- NOT PRINTED: function 9 (spec_l3Laced)

-- NOT PRINTED: function 4 (spec_DrawSameRun)

/-! ### impl_lassoOk: function 13 -/
def impl_lassoOk.f (l0 : List (List Int)) (l1 : List (List Int)) : Option (Bool) := if (l1.length : Int) > 0 then (some (decide ((wrap64 ((l0.length : Int) + (l1.length : Int))) ≤ 500))) else (some false)
set_option maxHeartbeats 8000000 in
set_option maxRecDepth 100000 in
theorem impl_lassoOk.calls (A0 : Option Addr) (c0 : Nat) (l0 : List (List Int)) (A1 : Option Addr) (c1 : Nat) (l1 : List (List Int)) (r : Bool) (w : World) (hr0 : Kd.C (Kd.slice 3 (Kd.int .i64)) w A0 l0.length l0) (hc0 : l0.length ≤ c0) (hr1 : Kd.C (Kd.slice 3 (Kd.int .i64)) w A1 l1.length l1) (hc1 : l1.length ≤ c1) (h : impl_lassoOk.f l0 l1 = some r) :
  Calls Try.prog 13 #[.slice A0 l0.length c0, .slice A1 l1.length c1] w fun e w' => e = .returned (.bool r) ∧ Drawn0 w w' := by
 have HR0 := Aside0.mk hr0
 have HC0 := Aside0.mk hc0
 clear hr0 hc0
 have HR1 := Aside0.mk hr1
 have HC1 := Aside0.mk hc1
 clear hr1 hc1
 have H : (if (l1.length : Int) > 0 then (some (decide ((wrap64 ((l0.length : Int) + (l1.length : Int))) ≤ 500))) else (some false)) = some r := h
 clear h
 by_cases c3 : (l1.length : Int) > 0
 ·rw [if_pos c3] at H
  have c3b0 : decide (0 < (l1.length : Int)) = true := decide_eq_true c3
  have c3b1 : decide (0 < l1.length) = true := decide_eq_true (by omega)
  clear c3
  obtain rfl := Option.some.inj H
  go_enter Try.func13, Try.ntmps13
  go_wp2
  go_ret
  exact ⟨by first | rfl | (simp; done) | (simp [*]; done), by repeat (first | exact Drawn0.refl _ | apply Drawn0.step)⟩
 ·rw [if_neg c3] at H
  have c3b0 : decide (0 < (l1.length : Int)) = false := decide_eq_false c3
  have c3b1 : decide (0 < l1.length) = false := decide_eq_false (by omega)
  clear c3
  obtain rfl := Option.some.inj H
  go_enter Try.func13, Try.ntmps13
  go_wp2
  go_ret
  exact ⟨by first | rfl | (simp; done) | (simp [*]; done), by repeat (first | exact Drawn0.refl _ | apply Drawn0.step)⟩

end Go.Proofs.Ytnidjlhbejifoaa.XFnSameRun
