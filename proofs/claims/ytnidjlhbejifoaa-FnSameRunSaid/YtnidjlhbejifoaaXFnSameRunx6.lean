/- Printed by a program of this session out of the translation: the Go functions that a law uses as plain Lean functions, with the proofs of their calls, or the law's row.
Conditions: those that each theorem states. -/
import Derived.Test.YtnidjlhbejifoaaXFnSameRunx0
import Derived.Test.YtnidjlhbejifoaaXFnSameRunx1
import Derived.Test.YtnidjlhbejifoaaXFnSameRunx4
import Derived.Test.YtnidjlhbejifoaaXFnSameRunx5
namespace Go.Proofs.Ytnidjlhbejifoaa.XFnSameRun
open Go.RowKit Go.Proofs.YtnidjlhbejifoaaW.PrintWords Go.Proofs.YtnidjlhbejifoaaW.PrintLast Go.Proofs.YtnidjlhbejifoaaW.PrintMore
attribute [local go_sem] max2_int max_two
set_option linter.unusedVariables false
set_option linter.unusedSimpArgs false

/-! ### spec_SystemValid: function 23 -/
mutual
def spec_SystemValid.j0 : Nat → Bool → List (S51) → List (S59) → Option (Bool)
 | 0, _, _, _ => none
 | k + 1, x16, x227000, x227001 => if x16 = true then (some false) else (spec_SystemValid.l0 k 1 0 x227000 x227001)
def spec_SystemValid.l0 : Nat → Int → Int → List (S51) → List (S59) → Option (Bool)
 | 0, _, _, _, _ => none
 | k + 1, x3, x4, x227000, x227001 => if x4 < (x227000.length : Int) then (if 0 ≤ x4 then ((spec_l2Var.f ((rd_T51 x227000 x4).f0) ((rd_T51 x227000 x4).f1) ((rd_T51 x227000 x4).f2)).bind fun t229 => (if t229 = true then (spec_SystemValid.l0 k (wrap64 (x3 * (wrap64 ((wrap64 (((rd_T51 x227000 x4).f1) - ((rd_T51 x227000 x4).f0))) + 1)))) (wrap64 (x4 + 1)) x227000 x227001) else (some false))) else (none)) else (spec_SystemValid.l1 k x3 0 x227000 x227001)
def spec_SystemValid.l1 : Nat → Int → Int → List (S51) → List (S59) → Option (Bool)
 | 0, _, _, _, _ => none
 | k + 1, x3, x5, x227000, x227001 => if x5 < (x227001.length : Int) then (if 0 ≤ x5 then ((spec_l2Rule.f k ((rd_T59 x227001 x5).f0) ((rd_T59 x227001 x5).f1) ((rd_T59 x227001 x5).f2) (x227000.length : Int)).bind fun t233 => (if t233 = true then (spec_SystemValid.l1 k x3 (wrap64 (x5 + 1)) x227000 x227001) else (some false))) else (none)) else (some (decide (x3 ≤ 400)))
end
def spec_SystemValid.f (k : Nat) (l0_0 : List (S51)) (l0_1 : List (S59)) : Option (Bool) := (spec_l1In.f (l0_0.length : Int) 1 5).bind fun t227 => (if t227 = true then (spec_SystemValid.j0 k (decide ((l0_1.length : Int) > 8)) l0_0 l0_1) else (spec_SystemValid.j0 k true l0_0 l0_1))
theorem spec_SystemValid.mono_l : ∀ k, (∀ y0 y1 y2, LeO (spec_SystemValid.j0 k y0 y1 y2) (spec_SystemValid.j0 (k + 1) y0 y1 y2)) ∧ (∀ y0 y1 y2 y3, LeO (spec_SystemValid.l0 k y0 y1 y2 y3) (spec_SystemValid.l0 (k + 1) y0 y1 y2 y3)) ∧ (∀ y0 y1 y2 y3, LeO (spec_SystemValid.l1 k y0 y1 y2 y3) (spec_SystemValid.l1 (k + 1) y0 y1 y2 y3))
 | 0 => ⟨fun _ _ _ r h => by simp [spec_SystemValid.j0] at h, fun _ _ _ _ r h => by simp [spec_SystemValid.l0] at h, fun _ _ _ _ r h => by simp [spec_SystemValid.l1] at h⟩
 | k + 1 => by
  obtain ⟨ih0, ih1, ih2⟩ := spec_SystemValid.mono_l k
  refine ⟨?_, ?_, ?_⟩
  ·intro y0 y1 y2
   unfold spec_SystemValid.j0
   repeat' first
   | (with_reducible exact ih0 _ _ _)
   | (with_reducible exact ih1 _ _ _ _)
   | (with_reducible exact ih2 _ _ _ _)
   | (with_reducible exact spec_l2Rule.mono _ _ _ _ _)
   | (with_reducible exact LeO.refl _)
   | (with_reducible exact LeO.none _)
   | (with_reducible refine LeO.ite ?_ ?_)
   | (with_reducible refine LeO.bind ?_ (fun _ => ?_))
   | exact ih0 _ _ _
   | exact ih1 _ _ _ _
   | exact ih2 _ _ _ _
   | exact spec_l2Rule.mono _ _ _ _ _
   | exact LeO.none _
   | refine LeO.ite ?_ ?_
   | refine LeO.bind ?_ (fun _ => ?_)
  ·intro y0 y1 y2 y3
   unfold spec_SystemValid.l0
   repeat' first
   | (with_reducible exact ih0 _ _ _)
   | (with_reducible exact ih1 _ _ _ _)
   | (with_reducible exact ih2 _ _ _ _)
   | (with_reducible exact spec_l2Rule.mono _ _ _ _ _)
   | (with_reducible exact LeO.refl _)
   | (with_reducible exact LeO.none _)
   | (with_reducible refine LeO.ite ?_ ?_)
   | (with_reducible refine LeO.bind ?_ (fun _ => ?_))
   | exact ih0 _ _ _
   | exact ih1 _ _ _ _
   | exact ih2 _ _ _ _
   | exact spec_l2Rule.mono _ _ _ _ _
   | exact LeO.none _
   | refine LeO.ite ?_ ?_
   | refine LeO.bind ?_ (fun _ => ?_)
  ·intro y0 y1 y2 y3
   unfold spec_SystemValid.l1
   repeat' first
   | (with_reducible exact ih0 _ _ _)
   | (with_reducible exact ih1 _ _ _ _)
   | (with_reducible exact ih2 _ _ _ _)
   | (with_reducible exact spec_l2Rule.mono _ _ _ _ _)
   | (with_reducible exact LeO.refl _)
   | (with_reducible exact LeO.none _)
   | (with_reducible refine LeO.ite ?_ ?_)
   | (with_reducible refine LeO.bind ?_ (fun _ => ?_))
   | exact ih0 _ _ _
   | exact ih1 _ _ _ _
   | exact ih2 _ _ _ _
   | exact spec_l2Rule.mono _ _ _ _ _
   | exact LeO.none _
   | refine LeO.ite ?_ ?_
   | refine LeO.bind ?_ (fun _ => ?_)
theorem spec_SystemValid.mono : ∀ a0 a1 k, LeO (spec_SystemValid.f k a0 a1) (spec_SystemValid.f (k + 1) a0 a1) := by
 intro a0 a1 k
 obtain ⟨ih0, ih1, ih2⟩ := spec_SystemValid.mono_l k
 unfold spec_SystemValid.f
 repeat' first
   | (with_reducible exact ih0 _ _ _)
   | (with_reducible exact ih1 _ _ _ _)
   | (with_reducible exact ih2 _ _ _ _)
   | (with_reducible exact spec_l2Rule.mono _ _ _ _ _)
   | (with_reducible exact LeO.refl _)
   | (with_reducible exact LeO.none _)
   | (with_reducible refine LeO.ite ?_ ?_)
   | (with_reducible refine LeO.bind ?_ (fun _ => ?_))
   | exact ih0 _ _ _
   | exact ih1 _ _ _ _
   | exact ih2 _ _ _ _
   | exact spec_l2Rule.mono _ _ _ _ _
   | exact LeO.none _
   | refine LeO.ite ?_ ?_
   | refine LeO.bind ?_ (fun _ => ?_)
def spec_SystemValid.T9 : Bool × List (List Nat × List Nat) := (true, [([], []), ([], []), ([1], [1]), ([], []), ([2, 3], [2, 3]), ([4], [4]), ([5], [5]), ([], []), ([7], [7]), ([], []), ([8, 9], [8, 9]), ([10], [10]), ([11], [11]), ([6, 12], [6, 12]), ([13], [13]), ([0, 14], [0, 14]), ([15, 0, 1, 2, 3, 4, 5, 6, 7, 8, 9, 10, 11, 12, 13, 14, 15], [0, 15])])
def spec_SystemValid.B9 : List Nat := [0, 0, 2, 0, 14, 30, 62, 0, 128, 0, 896, 1920, 3968, 8190, 16382, 32767, 65535]
theorem spec_SystemValid.tab9 : rtab .any (opsOf Try.f23 9) = spec_SystemValid.T9 := by kernel_rfl
theorem spec_SystemValid.bits9 : waitsOk spec_SystemValid.T9.2 spec_SystemValid.B9 = true := by kernel_rfl
def spec_SystemValid.T13 : Bool × List (List Nat × List Nat) := (true, [([], []), ([0], [0]), ([], []), ([1, 2], [1, 2]), ([3], [3]), ([], []), ([5], [5]), ([6], [6]), ([4, 7], [4, 7]), ([8], [8])])
def spec_SystemValid.B13 : List Nat := [0, 1, 0, 7, 15, 0, 32, 96, 255, 511]
theorem spec_SystemValid.tab13 : rtab .any (opsOf Try.f23 13) = spec_SystemValid.T13 := by kernel_rfl
theorem spec_SystemValid.bits13 : waitsOk spec_SystemValid.T13.2 spec_SystemValid.B13 = true := by kernel_rfl
set_option maxHeartbeats 8000000 in
set_option maxRecDepth 100000 in
theorem spec_SystemValid.calls (k : Nat) (A0_0 : Option Addr) (c0_0 : Nat) (l0_0 : List (S51)) (A0_1 : Option Addr) (c0_1 : Nat) (l0_1 : List (S59)) (r : Bool) (w : World) (hr0_0 : Kd.C k51 w A0_0 l0_0.length l0_0) (hc0_0 : l0_0.length ≤ c0_0) (hr0_1 : Kd.C k59 w A0_1 l0_1.length l0_1) (hc0_1 : l0_1.length ≤ c0_1) (h : spec_SystemValid.f k l0_0 l0_1 = some r) :
  Calls Try.prog 23 #[.agg #[.slice A0_0 l0_0.length c0_0, .slice A0_1 l0_1.length c0_1]] w fun e w' => e = .returned (.bool r) ∧ Below w.heap.size w w' := by
 have hu35 := Try.underlying35
 have hu51 := Try.underlying51
 have hu59 := Try.underlying59
 have HR0_0 := Aside0.mk hr0_0
 have HC0_0 := Aside0.mk hc0_0
 clear hr0_0 hc0_0
 have HR0_1 := Aside0.mk hr0_1
 have HC0_1 := Aside0.mk hc0_1
 clear hr0_1 hc0_1
 have HB := Aside0.mk (Below.refl w.heap.size w)
 have H : ((spec_l1In.f (l0_0.length : Int) 1 5).bind fun t227 => (if t227 = true then (spec_SystemValid.j0 k (decide ((l0_1.length : Int) > 8)) l0_0 l0_1) else (spec_SystemValid.j0 k true l0_0 l0_1))) = some r := h
 clear h
 have HC2 := Aside0.mk H
 clear H
 go_enter Try.func23, Try.ntmps23
 go_upto_region 1 with (first | ((with_reducible refine gate_dst (N := 1) rfl ?_); (try (refine gate_guard (by rfl) ?_; dsimp only)); refine box_event ?hg (N := 1) ?hd (cs := #[.slice A0_0 l0_0.length c0_0, .slice A0_1 l0_1.length c0_1]) (t := 35) ?hr ?_; (case hd => rfl); (case hg => rfl); (case hr => first | (go_simp; done) | (go_simp; rfl)); intro gb226 hg w3 hbox hb; have n0_ := Aside0.mk (below_step (by repeat (first | (with_reducible first | exact HB.out | apply below_alloc | apply pw_below_drewN | apply below_drew1) | exact HB.out)) hb); have n1_ := Aside0.mk (hbox); have n2_ := Aside0.mk ((by rw [hg]; exact (below_size (by repeat (first | (with_reducible first | exact HB.out | apply below_alloc | apply pw_below_drewN | apply below_drew1) | exact HB.out))) : w.heap.size ≤ gb226)); have n3_ := Aside0.mk ((by rw [hg]; exact (below_size (by repeat (first | (with_reducible first | exact HB.out | apply below_alloc | apply pw_below_drewN | apply below_drew1) | exact HB.out))) : w.heap.size ≤ gb226)); clear HB; have HB := n0_; have BK226 := n1_; have GW226 := n2_; have GE226 := n3_; clear n0_ n1_ n2_ n3_; clear hb hbox hg))
 (try simp only [Act.put, List.setIfInBounds_toArray, List.set_cons_zero, List.set_cons_succ])
 go_cut [16] (fun v16 wc => ∃ (kq : Nat) (x16_1 : Bool), v16 = .bool x16_1 ∧ Aside0 (spec_SystemValid.j0 kq x16_1 l0_0 l0_1 = some r) ∧ Aside0 (kq ≤ k) ∧ Aside0 (wc.heap[gb226]? = some (.cells #[(.slice A0_0 l0_0.length c0_0), (.slice A0_1 l0_1.length c0_1)] 35 (0, 0))) ∧ Aside0 (Below w.heap.size w wc))
 case first =>
  have H := HC2.out
  clear HC2
  replace H := Option.bind_eq_some_iff.mp H
  obtain ⟨t227, A40, H⟩ := H
  replace H : (if t227 = true then (spec_SystemValid.j0 k (decide ((l0_1.length : Int) > 8)) l0_0 l0_1) else (spec_SystemValid.j0 k true l0_0 l0_1)) = some r := H
  have A4 := Aside0.mk A40
  clear A40
  by_cases c5 : t227 = true
  ·subst c5
   have H1 : (spec_SystemValid.j0 k (decide ((l0_1.length : Int) > 8)) l0_0 l0_1) = some r := by rw [if_pos rfl] at H; exact H
   clear H
   have H := H1
   clear H1
   have H' := Aside0.mk H
   clear H
   have hcz6_0 : w3.cell? ⟨gb226, 0, none⟩ = some (.slice A0_0 l0_0.length c0_0) := (blk_cell BK226.out 0).trans rfl
   have hcz6_1 : w3.cell? ⟨gb226, 1, none⟩ = some (.slice A0_1 l0_1.length c0_1) := (blk_cell BK226.out 1).trans rfl
   have hfz6_0 := blk_frozen BK226.out 0
   have hfz6_1 := blk_frozen BK226.out 1
   go_wp2_with (first | ((with_reducible refine gate_callee (f := 28) rfl ?_); refine goesL_ (some 9) rfl rfl Try.func28 (by kernel_rfl) rfl #[.int .i64 (l0_0.length : Int), .int .i64 1, .int .i64 5] rfl (by (try simp only [List.map_toArray, List.map_cons, List.map_nil]); first | done | rfl | (simp only [List.length_drop, List.length_take]; rfl)) ?_; (with_reducible refine (spec_l1In.calls (l0_0.length : Int) 1 5 true _ A4.out).mono ?_); rintro e w' ⟨rfl, ⟨nd, rfl⟩⟩; refine ⟨_, rfl, ?_⟩))
   go_meet
   case rel => exact ⟨_, (decide ((l0_1.length : Int) > 8)), (by first | rfl | (simp; done) | (simp [*]; done)), H', ⟨by first | omega | exact Nat.le_refl _⟩, ⟨by (with_reducible repeat (first | refine blk_drewN ?_ _ | refine blk_drew ?_ | refine blk_alloc ?_ _)); exact BK226.out⟩, ⟨by repeat (first | (with_reducible first | exact HB.out | apply below_alloc | apply pw_below_drewN | apply below_drew1 | refine below_set ?_ GE226.out) | exact HB.out)⟩⟩
  ·replace c5 := Bool.eq_false_iff.mpr c5
   subst c5
   have H1 : (spec_SystemValid.j0 k true l0_0 l0_1) = some r := by rw [if_neg (show ¬ (false = true) by decide)] at H; exact H
   clear H
   have H := H1
   clear H1
   have H' := Aside0.mk H
   clear H
   have hcz7_0 : w3.cell? ⟨gb226, 0, none⟩ = some (.slice A0_0 l0_0.length c0_0) := (blk_cell BK226.out 0).trans rfl
   have hcz7_1 : w3.cell? ⟨gb226, 1, none⟩ = some (.slice A0_1 l0_1.length c0_1) := (blk_cell BK226.out 1).trans rfl
   have hfz7_0 := blk_frozen BK226.out 0
   have hfz7_1 := blk_frozen BK226.out 1
   go_wp2_with (first | ((with_reducible refine gate_callee (f := 28) rfl ?_); refine goesL_ (some 9) rfl rfl Try.func28 (by kernel_rfl) rfl #[.int .i64 (l0_0.length : Int), .int .i64 1, .int .i64 5] rfl (by (try simp only [List.map_toArray, List.map_cons, List.map_nil]); first | done | rfl | (simp only [List.length_drop, List.length_take]; rfl)) ?_; (with_reducible refine (spec_l1In.calls (l0_0.length : Int) 1 5 false _ A4.out).mono ?_); rintro e w' ⟨rfl, ⟨nd, rfl⟩⟩; refine ⟨_, rfl, ?_⟩))
   go_meet
   case rel => exact ⟨_, (true), (by first | rfl | (simp; done) | (simp [*]; done)), H', ⟨by first | omega | exact Nat.le_refl _⟩, ⟨by (with_reducible repeat (first | refine blk_drewN ?_ _ | refine blk_drew ?_ | refine blk_alloc ?_ _)); exact BK226.out⟩, ⟨by repeat (first | (with_reducible first | exact HB.out | apply below_alloc | apply pw_below_drewN | apply below_drew1 | refine below_set ?_ GE226.out) | exact HB.out)⟩⟩
 case rest =>
  clear HC2
  try clear c2
  try clear p2
  try clear c5
  try clear hcz6_0
  try clear hcz6_1
  try clear hcz7_0
  try clear hcz7_1
  try clear hfz6_0
  try clear hfz6_1
  try clear hfz7_0
  try clear hfz7_1
  obtain ⟨kq, x16_1, rfl, HA, HJ1, BK226, HB⟩ := hcut
  cases kq with
  | zero => exact absurd HA.out (by simp [spec_SystemValid.j0])
  | succ kj1 =>
   have H := HA.out
   clear HA
   simp only [spec_SystemValid.j0] at H
   by_cases c8 : x16_1 = true
   ·subst c8
    have H1 : (some false) = some r := by rw [if_pos rfl] at H; exact H
    clear H
    have H := H1
    clear H1
    obtain rfl := Option.some.inj H
    go_wp2
    go_ret
    exact ⟨by first | rfl | (simp [errW_none, errW_some] <;> rfl) | (simp [*, errW_none, errW_some] <;> rfl), by repeat (first | (with_reducible first | exact HB.out | apply below_alloc | apply pw_below_drewN | apply below_drew1 | refine below_set ?_ GE226.out) | exact HB.out)⟩
   ·replace c8 := Bool.eq_false_iff.mpr c8
    subst c8
    have H1 : (spec_SystemValid.l0 kj1 1 0 l0_0 l0_1) = some r := by rw [if_neg (show ¬ (false = true) by decide)] at H; exact H
    clear H
    have H := H1
    clear H1
    have H' := Aside0.mk H
    clear H
    go_wp2
    go_loopg [3, 4] kj1 (fun kq v3 v4 w' => ∃ (x3_2 : Int) (x4_2 : Int), v3 = .int .i64 x3_2 ∧ v4 = .int .i64 x4_2 ∧ Aside0 (spec_SystemValid.l0 kq x3_2 x4_2 l0_0 l0_1 = some r) ∧ Aside0 (kq ≤ kj1) ∧ Aside0 (w'.heap[gb226]? = some (.cells #[(.slice A0_0 l0_0.length c0_0), (.slice A0_1 l0_1.length c0_1)] 35 (0, 0))) ∧ Aside0 (Below w.heap.size w w'))
    case atStart => exact ⟨(1), (0), (by first | rfl | (simp; done) | (simp [*]; done)), (by first | rfl | (simp; done) | (simp [*]; done)), H', ⟨Nat.le_refl _⟩, ⟨by (with_reducible repeat (first | refine blk_drewN ?_ _ | refine blk_drew ?_ | refine blk_alloc ?_ _)); exact BK226.out⟩, ⟨by repeat (first | (with_reducible first | exact HB.out | apply below_alloc | apply pw_below_drewN | apply below_drew1 | refine below_set ?_ GE226.out) | exact HB.out)⟩⟩
    case round =>
     clear H'
     try clear c2
     try clear p2
     try clear c5
     try clear c8
     try clear hcz6_0
     try clear hcz6_1
     try clear hcz7_0
     try clear hcz7_1
     try clear hfz6_0
     try clear hfz6_1
     try clear hfz7_0
     try clear hfz7_1
     try clear p2
     obtain ⟨x3_2, x4_2, rfl, rfl, HA, HK2, BK226, HB⟩ := hrel
     cases gk with
     | zero => exact absurd HA.out (by simp [spec_SystemValid.l0])
     | succ k2 =>
      have H := HA.out
      clear HA
      simp only [spec_SystemValid.l0] at H
      by_cases c9 : x4_2 < (l0_0.length : Int)
      ·rw [if_pos c9] at H
       have c9b0 : decide (x4_2 < (l0_0.length : Int)) = true := decide_eq_true c9
       clear c9
       by_cases c10 : 0 ≤ x4_2
       ·rw [if_pos c10] at H
        have c10b0 : decide (0 ≤ x4_2) = true := decide_eq_true c10
        clear c10
        replace H := Option.bind_eq_some_iff.mp H
        obtain ⟨t229, A110, H⟩ := H
        replace H : (if t229 = true then (spec_SystemValid.l0 k2 (wrap64 (x3_2 * (wrap64 ((wrap64 (((rd_T51 l0_0 x4_2).f1) - ((rd_T51 l0_0 x4_2).f0))) + 1)))) (wrap64 (x4_2 + 1)) l0_0 l0_1) else (some false)) = some r := H
        have A11 := Aside0.mk A110
        clear A110
        by_cases c12 : t229 = true
        ·subst c12
         have H1 : (spec_SystemValid.l0 k2 (wrap64 (x3_2 * (wrap64 ((wrap64 (((rd_T51 l0_0 x4_2).f1) - ((rd_T51 l0_0 x4_2).f0))) + 1)))) (wrap64 (x4_2 + 1)) l0_0 l0_1) = some r := by rw [if_pos rfl] at H; exact H
         clear H
         have H := H1
         clear H1
         have H' := Aside0.mk H
         clear H
         have hcz13_0 : wr.cell? ⟨gb226, 0, none⟩ = some (.slice A0_0 l0_0.length c0_0) := (blk_cell BK226.out 0).trans rfl
         have hcz13_1 : wr.cell? ⟨gb226, 1, none⟩ = some (.slice A0_1 l0_1.length c0_1) := (blk_cell BK226.out 1).trans rfl
         have hfz13_0 := blk_frozen BK226.out 0
         have hfz13_1 := blk_frozen BK226.out 1
         have p228 : 0 ≤ (x4_2 : Int) := of_decide_eq_true (by first | (with_reducible assumption) | assumption)
         have q228 : x4_2 < (l0_0.length : Int) := of_decide_eq_true (by first | (with_reducible assumption) | assumption)
         obtain ⟨ad228, e228, hx228_0, hx228_1, hx228_2⟩ := at_T51 HR0_0.out x4_2 p228 q228
         cases e228
         replace hx228_0 := (HB.out.cell (World.block_lt_of_cell? w _ hx228_0)).trans hx228_0
         replace hx228_1 := (HB.out.cell (World.block_lt_of_cell? w _ hx228_1)).trans hx228_1
         replace hx228_2 := (HB.out.cell (World.block_lt_of_cell? w _ hx228_2)).trans hx228_2
         replace p228 := eq_true p228
         replace q228 := eq_true q228
         try go_wp2_with (first | ((with_reducible refine gate_callee (f := 29) rfl ?_); refine goesL_ (some 29) rfl rfl Try.func29 (by kernel_rfl) rfl #[.agg #[.int .i64 ((rd_T51 l0_0 x4_2).f0), .int .i64 ((rd_T51 l0_0 x4_2).f1), .int .i64 ((rd_T51 l0_0 x4_2).f2)]] rfl (by (try simp only [List.map_toArray, List.map_cons, List.map_nil]); first | done | rfl | (simp only [List.length_drop, List.length_take]; rfl)) ?_; (with_reducible refine (spec_l2Var.calls ((rd_T51 l0_0 x4_2).f0) ((rd_T51 l0_0 x4_2).f1) ((rd_T51 l0_0 x4_2).f2) true _ A11.out).mono ?_); rintro e w14 ⟨rfl, hb⟩; refine ⟨_, rfl, ?_⟩; have n0_ := Aside0.mk (blk_below (g := gb226) (o := .cells #[.slice (some ad228) l0_0.length c0_0, .slice A0_1 l0_1.length c0_1] 35 (0, 0)) (by (with_reducible repeat (first | refine blk_drewN ?_ _ | refine blk_drew ?_ | refine blk_alloc ?_ _)); exact BK226.out) hb); have n1_ := Aside0.mk (below_step (by repeat (first | (with_reducible first | exact HB.out | apply below_alloc | apply pw_below_drewN | apply below_drew1 | refine below_set ?_ GE226.out) | exact HB.out)) hb); clear BK226; clear HB; have BK226 := n0_; have HB := n1_; clear n0_ n1_; (try clear hb); (try clear hb2); (try clear hk); (try clear hi)))
         have n0_ := Aside0.mk (blk_drew BK226.out)
         have n1_ := Aside0.mk (below_drew1 HB.out)
         clear BK226
         clear HB
         have BK226 := n0_
         have HB := n1_
         clear n0_ n1_
         have p230 : 0 ≤ (x4_2 : Int) := of_decide_eq_true (by first | (with_reducible assumption) | assumption)
         have q230 : x4_2 < (l0_0.length : Int) := of_decide_eq_true (by first | (with_reducible assumption) | assumption)
         obtain ⟨ad230, e230, hx230_0, hx230_1, hx230_2⟩ := at_T51 HR0_0.out x4_2 p230 q230
         have hw230_2 := hx230_2
         have hw230_1 := hx230_1
         have hw230_0 := hx230_0
         obtain rfl : ad228 = ad230 := (by injection e230)
         replace hx230_0 := (HB.out.cell (World.block_lt_of_cell? w _ hx230_0)).trans hx230_0
         replace hx230_1 := (HB.out.cell (World.block_lt_of_cell? w _ hx230_1)).trans hx230_1
         replace hx230_2 := (HB.out.cell (World.block_lt_of_cell? w _ hx230_2)).trans hx230_2
         replace p230 := eq_true p230
         replace q230 := eq_true q230
         have p231 : 0 ≤ (x4_2 : Int) := of_decide_eq_true (by first | (with_reducible assumption) | assumption)
         have q231 : x4_2 < (l0_0.length : Int) := of_decide_eq_true (by first | (with_reducible assumption) | assumption)
         obtain ⟨ad231, e231, hx231_0, hx231_1, hx231_2⟩ := at_T51 HR0_0.out x4_2 p231 q231
         have hw231_2 := hx231_2
         have hw231_1 := hx231_1
         have hw231_0 := hx231_0
         obtain rfl : ad228 = ad231 := (by injection e231)
         replace hx231_0 := (HB.out.cell (World.block_lt_of_cell? w _ hx231_0)).trans hx231_0
         replace hx231_1 := (HB.out.cell (World.block_lt_of_cell? w _ hx231_1)).trans hx231_1
         replace hx231_2 := (HB.out.cell (World.block_lt_of_cell? w _ hx231_2)).trans hx231_2
         replace p231 := eq_true p231
         replace q231 := eq_true q231
         refine start_ (n := 17) (S := fun w' => w'.cell? ⟨gb226, 0, none⟩ = some (.slice (some ad228) l0_0.length c0_0) ∧ w'.cell? ⟨gb226, 1, none⟩ = some (.slice A0_1 l0_1.length c0_1) ∧ w'.cell? (ad228.add ((x4_2).toNat * 3)) = some (.int .i64 ((rd_T51 l0_0 x4_2).f0)) ∧ w'.cell? ⟨(ad228.add ((x4_2).toNat * 3)).block, (ad228.add ((x4_2).toNat * 3)).off + 1, none⟩ = some (.int .i64 ((rd_T51 l0_0 x4_2).f1)) ∧ w'.cell? ⟨(ad228.add ((x4_2).toNat * 3)).block, (ad228.add ((x4_2).toNat * 3)).off + 2, none⟩ = some (.int .i64 ((rd_T51 l0_0 x4_2).f2)) ∧ w'.cell? (ad228.add ((x4_2).toNat * 3)) = some (.int .i64 ((rd_T51 l0_0 x4_2).f0)) ∧ w'.cell? ⟨(ad228.add ((x4_2).toNat * 3)).block, (ad228.add ((x4_2).toNat * 3)).off + 1, none⟩ = some (.int .i64 ((rd_T51 l0_0 x4_2).f1)) ∧ w'.cell? ⟨(ad228.add ((x4_2).toNat * 3)).block, (ad228.add ((x4_2).toNat * 3)).off + 2, none⟩ = some (.int .i64 ((rd_T51 l0_0 x4_2).f2))) (ds := []) (ms 17 0) (by kernel_rfl) rfl rfl ⟨(blk_cell BK226.out 0).trans rfl, (blk_cell BK226.out 1).trans rfl, ((HB.out.cell (World.block_lt_of_cell? w _ hw230_0)).trans hw230_0), ((HB.out.cell (World.block_lt_of_cell? w _ hw230_1)).trans hw230_1), ((HB.out.cell (World.block_lt_of_cell? w _ hw230_2)).trans hw230_2), ((HB.out.cell (World.block_lt_of_cell? w _ hw231_0)).trans hw231_0), ((HB.out.cell (World.block_lt_of_cell? w _ hw231_1)).trans hw231_1), ((HB.out.cell (World.block_lt_of_cell? w _ hw231_2)).trans hw231_2)⟩ (fun hHeld => ?_); refine with_tabW spec_SystemValid.tab9 spec_SystemValid.bits9 (fun HT_ HW_ => ?_)
         generalize w14.drew = w15 at BK226 HB hx230_0 hx230_1 hx230_2 hx231_0 hx231_1 hx231_2 hHeld ⊢
         refine pure_ (i := 0) (N := some 31) (v := ?_) (a' := ?_) (ms 17 1) rfl rfl (any_of HT_.out (by kernel_rfl)) (fun _ _ _ h => h) (Or.inl ⟨by rfl, ?_⟩) ?_ ?_
         rotate_left
         ·intro w'
          go_simp
          with_reducible rfl
         rotate_left
         ·simp only [Act.put, List.setIfInBounds_toArray, List.set_cons_zero, List.set_cons_succ, i64_w]
          rfl
         refine pure_ (i := 1) (N := some 32) (v := ?_) (a' := ?_) (ms 17 3) rfl rfl (any_of HT_.out (by kernel_rfl)) (fun _ _ _ h => h) (Or.inl ⟨by rfl, ?_⟩) ?_ ?_
         rotate_left
         ·intro w'
          go_simp
          with_reducible rfl
         rotate_left
         ·simp only [Act.put, List.setIfInBounds_toArray, List.set_cons_zero, List.set_cons_succ, i64_w]
          rfl
         refine pure_ (i := 3) (N := some 34) (v := ?_) (a' := ?_) (ms 17 11) rfl rfl (any_of HT_.out (by kernel_rfl)) (fun _ _ _ h => h) (Or.inl ⟨by rfl, ?_⟩) ?_ ?_
         rotate_left
         ·intro w'
          go_simp
          with_reducible rfl
         rotate_left
         ·simp only [Act.put, List.setIfInBounds_toArray, List.set_cons_zero, List.set_cons_succ, i64_w]
          rfl
         refine pure_ (i := 7) (N := some 38) (v := ?_) (a' := ?_) (ms 17 139) rfl rfl (any_of HT_.out (by kernel_rfl)) (fun _ _ _ h => h) (Or.inl ⟨by rfl, ?_⟩) ?_ ?_
         rotate_left
         ·intro w'
          go_simp
          with_reducible rfl
         rotate_left
         ·simp only [Act.put, List.setIfInBounds_toArray, List.set_cons_zero, List.set_cons_succ, i64_w]
          rfl
         refine pure_ (i := 9) (N := some 40) (v := ?_) (a' := ?_) (ms 17 651) rfl rfl (any_of HT_.out (by kernel_rfl)) (fun _ _ _ h => h) (Or.inl ⟨by rfl, ?_⟩) ?_ ?_
         rotate_left
         ·intro w'
          go_simp
          with_reducible rfl
         rotate_left
         ·simp only [Act.put, List.setIfInBounds_toArray, List.set_cons_zero, List.set_cons_succ, i64_w]
          rfl
         refine take_ (i := 2) (N := some 33) (v := ?_) (a' := ?_) (ms 17 655) rfl rfl (take_ofW HT_.out HW_.out (by kernel_rfl)) (fun _ _ _ h => h) (Or.inl ⟨by rfl, ?_⟩) hHeld ?_ ?_
         rotate_left
         ·rintro w' ⟨s0, s1, s2, s3, s4, s5, s6, s7⟩
          go_simp
          with_reducible rfl
         rotate_left
         ·simp only [Act.put, List.setIfInBounds_toArray, List.set_cons_zero, List.set_cons_succ, i64_w]
          rfl
         refine pure_ (i := 4) (N := some 35) (v := ?_) (a' := ?_) (ms 17 671) rfl rfl (any_of HT_.out (by kernel_rfl)) (fun _ _ _ h => h) (Or.inl ⟨by rfl, ?_⟩) ?_ ?_
         rotate_left
         ·intro w'
          go_simp
          with_reducible rfl
         rotate_left
         ·simp only [Act.put, List.setIfInBounds_toArray, List.set_cons_zero, List.set_cons_succ, i64_w]
          rfl
         refine pure_ (i := 5) (N := some 36) (v := ?_) (a' := ?_) (ms 17 703) rfl rfl (any_of HT_.out (by kernel_rfl)) (fun _ _ _ h => h) (Or.inl ⟨by rfl, ?_⟩) ?_ ?_
         rotate_left
         ·intro w'
          go_simp
          with_reducible rfl
         rotate_left
         ·simp only [Act.put, List.setIfInBounds_toArray, List.set_cons_zero, List.set_cons_succ, i64_w]
          rfl
         refine take_ (i := 6) (N := some 37) (v := ?_) (a' := ?_) (ms 17 767) rfl rfl (take_ofW HT_.out HW_.out (by kernel_rfl)) (fun _ _ _ h => h) (Or.inl ⟨by rfl, ?_⟩) hHeld ?_ ?_
         rotate_left
         ·rintro w' ⟨s0, s1, s2, s3, s4, s5, s6, s7⟩
          go_simp
          with_reducible rfl
         rotate_left
         ·simp only [Act.put, List.setIfInBounds_toArray, List.set_cons_zero, List.set_cons_succ, i64_w]
          rfl
         refine take_ (i := 8) (N := some 39) (v := ?_) (a' := ?_) (ms 17 1023) rfl rfl (take_ofW HT_.out HW_.out (by kernel_rfl)) (fun _ _ _ h => h) (Or.inl ⟨by rfl, ?_⟩) hHeld ?_ ?_
         rotate_left
         ·rintro w' ⟨s0, s1, s2, s3, s4, s5, s6, s7⟩
          go_simp
          with_reducible rfl
         rotate_left
         ·simp only [Act.put, List.setIfInBounds_toArray, List.set_cons_zero, List.set_cons_succ, i64_w]
          rfl
         refine pure_ (i := 10) (N := some 41) (v := ?_) (a' := ?_) (ms 17 2047) rfl rfl (any_of HT_.out (by kernel_rfl)) (fun _ _ _ h => h) (Or.inl ⟨by rfl, ?_⟩) ?_ ?_
         rotate_left
         ·intro w'
          go_simp
          with_reducible rfl
         rotate_left
         ·simp only [Act.put, List.setIfInBounds_toArray, List.set_cons_zero, List.set_cons_succ, i64_w]
          rfl
         refine pure_ (i := 11) (N := some 42) (v := ?_) (a' := ?_) (ms 17 4095) rfl rfl (any_of HT_.out (by kernel_rfl)) (fun _ _ _ h => h) (Or.inl ⟨by rfl, ?_⟩) ?_ ?_
         rotate_left
         ·intro w'
          go_simp
          with_reducible rfl
         rotate_left
         ·simp only [Act.put, List.setIfInBounds_toArray, List.set_cons_zero, List.set_cons_succ, i64_w]
          rfl
         refine take_ (i := 12) (N := some 43) (v := ?_) (a' := ?_) (ms 17 8191) rfl rfl (take_ofW HT_.out HW_.out (by kernel_rfl)) (fun _ _ _ h => h) (Or.inl ⟨by rfl, ?_⟩) hHeld ?_ ?_
         rotate_left
         ·rintro w' ⟨s0, s1, s2, s3, s4, s5, s6, s7⟩
          go_simp
          with_reducible rfl
         rotate_left
         ·simp only [Act.put, List.setIfInBounds_toArray, List.set_cons_zero, List.set_cons_succ, i64_w]
          rfl
         refine pure_ (i := 13) (N := some 44) (v := ?_) (a' := ?_) (ms 17 16383) rfl rfl (any_of HT_.out (by kernel_rfl)) (fun _ _ _ h => h) (Or.inl ⟨by rfl, ?_⟩) ?_ ?_
         rotate_left
         ·intro w'
          go_simp
          with_reducible rfl
         rotate_left
         ·simp only [Act.put, List.setIfInBounds_toArray, List.set_cons_zero, List.set_cons_succ, i64_w]
          rfl
         refine pure_ (i := 14) (N := some 45) (v := ?_) (a' := ?_) (ms 17 32767) rfl rfl (any_of HT_.out (by kernel_rfl)) (fun _ _ _ h => h) (Or.inl ⟨by rfl, ?_⟩) ?_ ?_
         rotate_left
         ·intro w'
          go_simp
          with_reducible rfl
         rotate_left
         ·simp only [Act.put, List.setIfInBounds_toArray, List.set_cons_zero, List.set_cons_succ, i64_w]
          rfl
         refine pure_ (i := 15) (N := some 46) (v := ?_) (a' := ?_) (ms 17 65535) rfl rfl (any_of HT_.out (by kernel_rfl)) (fun _ _ _ h => h) (Or.inl ⟨by rfl, ?_⟩) ?_ ?_
         rotate_left
         ·intro w'
          go_simp
          with_reducible rfl
         rotate_left
         ·simp only [Act.put, List.setIfInBounds_toArray, List.set_cons_zero, List.set_cons_succ, i64_w]
          rfl
         refine pure_ (i := 16) (N := some 3) (v := ?_) (a' := ?_) (ms 17 131071) rfl rfl (any_of HT_.out (by kernel_rfl)) (fun _ _ _ h => h) (Or.inl ⟨by rfl, ?_⟩) ?_ ?_
         rotate_left
         ·intro w'
          go_simp
          with_reducible rfl
         rotate_left
         ·simp only [Act.put, List.setIfInBounds_toArray, List.set_cons_zero, List.set_cons_succ, i64_w]
          rfl
         refine done_ (done_of HT_.out (by kernel_rfl)) ?_
         try go_wp2
         go_roundg k2
         case measure => have := HJ1.out; have := HK2.out; omega
         case rel => exact ⟨(wrap64 (x3_2 * (wrap64 ((wrap64 (((rd_T51 l0_0 x4_2).f1) - ((rd_T51 l0_0 x4_2).f0))) + 1)))), (wrap64 (x4_2 + 1)), (by first | rfl | (simp; done) | (simp [*]; done)), (by first | rfl | (simp; done) | (simp [*]; done)), H', ⟨by have := HJ1.out; have := HK2.out; omega⟩, ⟨by (with_reducible repeat (first | refine blk_drewN ?_ _ | refine blk_drew ?_ | refine blk_alloc ?_ _)); exact BK226.out⟩, ⟨by repeat (first | (with_reducible first | exact HB.out | apply below_alloc | apply pw_below_drewN | apply below_drew1 | refine below_set ?_ GE226.out) | exact HB.out)⟩⟩
        ·replace c12 := Bool.eq_false_iff.mpr c12
         subst c12
         have H1 : (some false) = some r := by rw [if_neg (show ¬ (false = true) by decide)] at H; exact H
         clear H
         have H := H1
         clear H1
         obtain rfl := Option.some.inj H
         have hcz16_0 : wr.cell? ⟨gb226, 0, none⟩ = some (.slice A0_0 l0_0.length c0_0) := (blk_cell BK226.out 0).trans rfl
         have hcz16_1 : wr.cell? ⟨gb226, 1, none⟩ = some (.slice A0_1 l0_1.length c0_1) := (blk_cell BK226.out 1).trans rfl
         have hfz16_0 := blk_frozen BK226.out 0
         have hfz16_1 := blk_frozen BK226.out 1
         have p228 : 0 ≤ (x4_2 : Int) := of_decide_eq_true (by first | (with_reducible assumption) | assumption)
         have q228 : x4_2 < (l0_0.length : Int) := of_decide_eq_true (by first | (with_reducible assumption) | assumption)
         obtain ⟨ad228, e228, hx228_0, hx228_1, hx228_2⟩ := at_T51 HR0_0.out x4_2 p228 q228
         cases e228
         replace hx228_0 := (HB.out.cell (World.block_lt_of_cell? w _ hx228_0)).trans hx228_0
         replace hx228_1 := (HB.out.cell (World.block_lt_of_cell? w _ hx228_1)).trans hx228_1
         replace hx228_2 := (HB.out.cell (World.block_lt_of_cell? w _ hx228_2)).trans hx228_2
         replace p228 := eq_true p228
         replace q228 := eq_true q228
         go_wp2_with (first | ((with_reducible refine gate_callee (f := 29) rfl ?_); refine goesL_ (some 29) rfl rfl Try.func29 (by kernel_rfl) rfl #[.agg #[.int .i64 ((rd_T51 l0_0 x4_2).f0), .int .i64 ((rd_T51 l0_0 x4_2).f1), .int .i64 ((rd_T51 l0_0 x4_2).f2)]] rfl (by (try simp only [List.map_toArray, List.map_cons, List.map_nil]); first | done | rfl | (simp only [List.length_drop, List.length_take]; rfl)) ?_; (with_reducible refine (spec_l2Var.calls ((rd_T51 l0_0 x4_2).f0) ((rd_T51 l0_0 x4_2).f1) ((rd_T51 l0_0 x4_2).f2) false _ A11.out).mono ?_); rintro e w17 ⟨rfl, hb⟩; refine ⟨_, rfl, ?_⟩; have n0_ := Aside0.mk (blk_below (g := gb226) (o := .cells #[.slice (some ad228) l0_0.length c0_0, .slice A0_1 l0_1.length c0_1] 35 (0, 0)) (by (with_reducible repeat (first | refine blk_drewN ?_ _ | refine blk_drew ?_ | refine blk_alloc ?_ _)); exact BK226.out) hb); have n1_ := Aside0.mk (below_step (by repeat (first | (with_reducible first | exact HB.out | apply below_alloc | apply pw_below_drewN | apply below_drew1 | refine below_set ?_ GE226.out) | exact HB.out)) hb); clear BK226; clear HB; have BK226 := n0_; have HB := n1_; clear n0_ n1_; (try clear hb); (try clear hb2); (try clear hk); (try clear hi)))
         go_ret
         exact ⟨by first | rfl | (simp [errW_none, errW_some] <;> rfl) | (simp [*, errW_none, errW_some] <;> rfl), by repeat (first | (with_reducible first | exact HB.out | apply below_alloc | apply pw_below_drewN | apply below_drew1 | refine below_set ?_ GE226.out) | exact HB.out)⟩
       ·rw [if_neg c10] at H
        exact absurd H (by simp)
      ·rw [if_neg c9] at H
       have c9b0 : decide (x4_2 < (l0_0.length : Int)) = false := decide_eq_false c9
       clear c9
       have H' := Aside0.mk H
       clear H
       have hcz18_0 : wr.cell? ⟨gb226, 0, none⟩ = some (.slice A0_0 l0_0.length c0_0) := (blk_cell BK226.out 0).trans rfl
       have hcz18_1 : wr.cell? ⟨gb226, 1, none⟩ = some (.slice A0_1 l0_1.length c0_1) := (blk_cell BK226.out 1).trans rfl
       have hfz18_0 := blk_frozen BK226.out 0
       have hfz18_1 := blk_frozen BK226.out 1
       go_wp2
       go_loopg [5] k2 (fun kq v5 w' => ∃ (x5_3 : Int), v5 = .int .i64 x5_3 ∧ Aside0 (spec_SystemValid.l1 kq x3_2 x5_3 l0_0 l0_1 = some r) ∧ Aside0 (kq ≤ k2) ∧ Aside0 (w'.heap[gb226]? = some (.cells #[(.slice A0_0 l0_0.length c0_0), (.slice A0_1 l0_1.length c0_1)] 35 (0, 0))) ∧ Aside0 (Below w.heap.size w w'))
       case atStart => exact ⟨(0), (by first | rfl | (simp; done) | (simp [*]; done)), H', ⟨Nat.le_refl _⟩, ⟨by (with_reducible repeat (first | refine blk_drewN ?_ _ | refine blk_drew ?_ | refine blk_alloc ?_ _)); exact BK226.out⟩, ⟨by repeat (first | (with_reducible first | exact HB.out | apply below_alloc | apply pw_below_drewN | apply below_drew1 | refine below_set ?_ GE226.out) | exact HB.out)⟩⟩
       case round =>
        clear H'
        try clear c1
        try clear c2
        try clear p2
        try clear q2
        try clear hx2
        try clear c5
        try clear p6
        try clear c8
        try clear c9
        try clear c9b0
        try clear c10
        try clear c10b0
        try clear c12
        try clear hcz13_0
        try clear hcz13_1
        try clear hcz16_0
        try clear hcz16_1
        try clear hcz18_0
        try clear hcz18_1
        try clear hcz6_0
        try clear hcz6_1
        try clear hcz7_0
        try clear hcz7_1
        try clear hfz13_0
        try clear hfz13_1
        try clear hfz16_0
        try clear hfz16_1
        try clear hfz18_0
        try clear hfz18_1
        try clear hfz6_0
        try clear hfz6_1
        try clear hfz7_0
        try clear hfz7_1
        try clear hx228_0
        try clear hx228_1
        try clear hx228_2
        try clear hx230_0
        try clear hx230_1
        try clear hx230_2
        try clear hx231_0
        try clear hx231_1
        try clear hx231_2
        try clear p2
        try clear p228
        try clear p230
        try clear p231
        try clear q228
        try clear q230
        try clear q231
        obtain ⟨x5_3, rfl, HA, HK3, BK226, HB⟩ := hrel
        cases gk with
        | zero => exact absurd HA.out (by simp [spec_SystemValid.l1])
        | succ k3 =>
         have H := HA.out
         clear HA
         simp only [spec_SystemValid.l1] at H
         by_cases c19 : x5_3 < (l0_1.length : Int)
         ·rw [if_pos c19] at H
          have c19b0 : decide (x5_3 < (l0_1.length : Int)) = true := decide_eq_true c19
          clear c19
          by_cases c20 : 0 ≤ x5_3
          ·rw [if_pos c20] at H
           have c20b0 : decide (0 ≤ x5_3) = true := decide_eq_true c20
           clear c20
           replace H := Option.bind_eq_some_iff.mp H
           obtain ⟨t233, A210, H⟩ := H
           replace H : (if t233 = true then (spec_SystemValid.l1 k3 x3_2 (wrap64 (x5_3 + 1)) l0_0 l0_1) else (some false)) = some r := H
           have A21 := Aside0.mk A210
           clear A210
           by_cases c22 : t233 = true
           ·subst c22
            have H1 : (spec_SystemValid.l1 k3 x3_2 (wrap64 (x5_3 + 1)) l0_0 l0_1) = some r := by rw [if_pos rfl] at H; exact H
            clear H
            have H := H1
            clear H1
            have H' := Aside0.mk H
            clear H
            have hcz23_0 : wr.cell? ⟨gb226, 0, none⟩ = some (.slice A0_0 l0_0.length c0_0) := (blk_cell BK226.out 0).trans rfl
            have hcz23_1 : wr.cell? ⟨gb226, 1, none⟩ = some (.slice A0_1 l0_1.length c0_1) := (blk_cell BK226.out 1).trans rfl
            have hfz23_0 := blk_frozen BK226.out 0
            have hfz23_1 := blk_frozen BK226.out 1
            try go_wp2
            have n0_ := Aside0.mk (blk_drew BK226.out)
            have n1_ := Aside0.mk (below_drew1 HB.out)
            clear BK226
            clear HB
            have BK226 := n0_
            have HB := n1_
            clear n0_ n1_
            have p232 : 0 ≤ (x5_3 : Int) := of_decide_eq_true (by first | (with_reducible assumption) | assumption)
            have q232 : x5_3 < (l0_1.length : Int) := of_decide_eq_true (by first | (with_reducible assumption) | assumption)
            obtain ⟨ad232, A232_0, c232_0, A232_1, c232_1, A232_2, c232_2, e232, hx232_0, hx232_1, hx232_2, hl232_0, hi232_0, hl232_1, hi232_1, hl232_2, hi232_2⟩ := at_T59 HR0_1.out x5_3 p232 q232
            have hw232_2 := hx232_2
            have hw232_1 := hx232_1
            have hw232_0 := hx232_0
            cases e232
            replace hx232_0 := (HB.out.cell (World.block_lt_of_cell? w _ hx232_0)).trans hx232_0
            replace hx232_1 := (HB.out.cell (World.block_lt_of_cell? w _ hx232_1)).trans hx232_1
            replace hx232_2 := (HB.out.cell (World.block_lt_of_cell? w _ hx232_2)).trans hx232_2
            have HR232_0 := Aside0.mk hi232_0
            have HC232_0 := Aside0.mk hl232_0
            clear hi232_0 hl232_0
            have HR232_1 := Aside0.mk hi232_1
            have HC232_1 := Aside0.mk hl232_1
            clear hi232_1 hl232_1
            have HR232_2 := Aside0.mk hi232_2
            have HC232_2 := Aside0.mk hl232_2
            clear hi232_2 hl232_2
            replace p232 := eq_true p232
            replace q232 := eq_true q232
            refine start_ (n := 10) (S := fun w' => w'.cell? ⟨gb226, 0, none⟩ = some (.slice A0_0 l0_0.length c0_0) ∧ w'.cell? ⟨gb226, 1, none⟩ = some (.slice (some ad232) l0_1.length c0_1) ∧ w'.cell? (ad232.add ((x5_3).toNat * 3)) = some (.slice A232_0 ((rd_T59 l0_1 x5_3).f0).length c232_0) ∧ w'.cell? ⟨(ad232.add ((x5_3).toNat * 3)).block, (ad232.add ((x5_3).toNat * 3)).off + 1, none⟩ = some (.slice A232_1 ((rd_T59 l0_1 x5_3).f1).length c232_1) ∧ w'.cell? ⟨(ad232.add ((x5_3).toNat * 3)).block, (ad232.add ((x5_3).toNat * 3)).off + 2, none⟩ = some (.slice A232_2 ((rd_T59 l0_1 x5_3).f2).length c232_2)) (ds := []) (ms 10 0) (by kernel_rfl) rfl rfl ⟨(blk_cell BK226.out 0).trans rfl, (blk_cell BK226.out 1).trans rfl, ((HB.out.cell (World.block_lt_of_cell? w _ hw232_0)).trans hw232_0), ((HB.out.cell (World.block_lt_of_cell? w _ hw232_1)).trans hw232_1), ((HB.out.cell (World.block_lt_of_cell? w _ hw232_2)).trans hw232_2)⟩ (fun hHeld => ?_); refine with_tabW spec_SystemValid.tab13 spec_SystemValid.bits13 (fun HT_ HW_ => ?_)
            generalize wr.drew = w24 at BK226 HB HR232_0 HR232_1 HR232_2 hx232_0 hx232_1 hx232_2 hHeld ⊢
            refine pure_ (i := 0) (N := some 54) (v := ?_) (a' := ?_) (ms 10 1) rfl rfl (any_of HT_.out (by kernel_rfl)) (fun _ _ _ h => h) (Or.inl ⟨by rfl, ?_⟩) ?_ ?_
            rotate_left
            ·intro w'
             go_simp
             with_reducible rfl
            rotate_left
            ·simp only [Act.put, List.setIfInBounds_toArray, List.set_cons_zero, List.set_cons_succ, i64_w]
             rfl
            refine pure_ (i := 2) (N := some 56) (v := ?_) (a' := ?_) (ms 10 5) rfl rfl (any_of HT_.out (by kernel_rfl)) (fun _ _ _ h => h) (Or.inl ⟨by rfl, ?_⟩) ?_ ?_
            rotate_left
            ·intro w'
             go_simp
             with_reducible rfl
            rotate_left
            ·simp only [Act.put, List.setIfInBounds_toArray, List.set_cons_zero, List.set_cons_succ, i64_w]
             rfl
            refine pure_ (i := 5) (N := some 59) (v := ?_) (a' := ?_) (ms 10 37) rfl rfl (any_of HT_.out (by kernel_rfl)) (fun _ _ _ h => h) (Or.inl ⟨by rfl, ?_⟩) ?_ ?_
            rotate_left
            ·intro w'
             go_simp
             with_reducible rfl
            rotate_left
            ·simp only [Act.put, List.setIfInBounds_toArray, List.set_cons_zero, List.set_cons_succ, i64_w]
             rfl
            refine take_ (i := 1) (N := some 55) (v := ?_) (a' := ?_) (ms 10 39) rfl rfl (take_ofW HT_.out HW_.out (by kernel_rfl)) (fun _ _ _ h => h) (Or.inl ⟨by rfl, ?_⟩) hHeld ?_ ?_
            rotate_left
            ·rintro w' ⟨s0, s1, s2, s3, s4⟩
             go_simp
             with_reducible rfl
            rotate_left
            ·simp only [Act.put, List.setIfInBounds_toArray, List.set_cons_zero, List.set_cons_succ, i64_w]
             rfl
            refine pure_ (i := 3) (N := some 57) (v := ?_) (a' := ?_) (ms 10 47) rfl rfl (any_of HT_.out (by kernel_rfl)) (fun _ _ _ h => h) (Or.inl ⟨by rfl, ?_⟩) ?_ ?_
            rotate_left
            ·intro w'
             go_simp
             with_reducible rfl
            rotate_left
            ·simp only [Act.put, List.setIfInBounds_toArray, List.set_cons_zero, List.set_cons_succ, i64_w]
             rfl
            refine take_ (i := 4) (N := some 58) (v := ?_) (a' := ?_) (ms 10 63) rfl rfl (take_ofW HT_.out HW_.out (by kernel_rfl)) (fun _ _ _ h => h) (Or.inl ⟨by rfl, ?_⟩) hHeld ?_ ?_
            rotate_left
            ·rintro w' ⟨s0, s1, s2, s3, s4⟩
             go_simp
             with_reducible rfl
            rotate_left
            ·simp only [Act.put, List.setIfInBounds_toArray, List.set_cons_zero, List.set_cons_succ, i64_w]
             rfl
            refine take_ (i := 6) (N := some 60) (v := ?_) (a' := ?_) (ms 10 127) rfl rfl (take_ofW HT_.out HW_.out (by kernel_rfl)) (fun _ _ _ h => h) (Or.inl ⟨by rfl, ?_⟩) hHeld ?_ ?_
            rotate_left
            ·rintro w' ⟨s0, s1, s2, s3, s4⟩
             go_simp
             with_reducible rfl
            rotate_left
            ·simp only [Act.put, List.setIfInBounds_toArray, List.set_cons_zero, List.set_cons_succ, i64_w]
             rfl
            refine pure_ (i := 7) (N := some 61) (v := ?_) (a' := ?_) (ms 10 255) rfl rfl (any_of HT_.out (by kernel_rfl)) (fun _ _ _ h => h) (Or.inl ⟨by rfl, ?_⟩) ?_ ?_
            rotate_left
            ·intro w'
             go_simp
             with_reducible rfl
            rotate_left
            ·simp only [Act.put, List.setIfInBounds_toArray, List.set_cons_zero, List.set_cons_succ, i64_w]
             rfl
            refine one_ (i := 8) (N := some 62) (ms 10 511) rfl rfl (one_of HT_.out (by kernel_rfl)) (by decide) (fun K hK => ?_)
            refine goes_ Try.func30 (by kernel_rfl) rfl #[.agg #[.slice A232_0 ((rd_T59 l0_1 x5_3).f0).length c232_0, .slice A232_1 ((rd_T59 l0_1 x5_3).f1).length c232_1, .slice A232_2 ((rd_T59 l0_1 x5_3).f2).length c232_2], .int .i64 (l0_0.length : Int)] (by rfl) rfl rfl (by (try simp only [List.map_toArray, List.map_cons, List.map_nil]); first | done | rfl | (simp only [List.length_drop, List.length_take]; rfl)) ?_
            with_reducible refine (spec_l2Rule.calls k3 _ _ ((rd_T59 l0_1 x5_3).f0) _ _ ((rd_T59 l0_1 x5_3).f1) _ _ ((rd_T59 l0_1 x5_3).f2) (l0_0.length : Int) true _ ?side1 ?side2 ?side3 ?side4 ?side5 ?side6 A21.out).mono ?_
            (case side1 => repeat (first | exact (Kd.C_below HR232_0.out HB.out) | (with_reducible refine Kd.C_alloc ?_ _) | (with_reducible refine Kd.C_drewN ?_ _) | (with_reducible refine Kd.C_drew ?_)))
            (case side2 => exact HC232_0.out)
            (case side3 => repeat (first | exact (Kd.C_below HR232_1.out HB.out) | (with_reducible refine Kd.C_alloc ?_ _) | (with_reducible refine Kd.C_drewN ?_ _) | (with_reducible refine Kd.C_drew ?_)))
            (case side4 => exact HC232_1.out)
            (case side5 => repeat (first | exact (Kd.C_below HR232_2.out HB.out) | (with_reducible refine Kd.C_alloc ?_ _) | (with_reducible refine Kd.C_drewN ?_ _) | (with_reducible refine Kd.C_drew ?_)))
            (case side6 => exact HC232_2.out)
            rintro e w25 ⟨rfl, hb⟩
            refine ⟨_, rfl, ?_⟩
            have n0_ := Aside0.mk (blk_below (g := gb226) (o := .cells #[.slice A0_0 l0_0.length c0_0, .slice (some ad232) l0_1.length c0_1] 35 (0, 0)) (by (with_reducible repeat (first | refine blk_drewN ?_ _ | refine blk_drew ?_ | refine blk_alloc ?_ _)); exact BK226.out) hb)
            have n1_ := Aside0.mk (below_step (by repeat (first | (with_reducible first | exact HB.out | apply below_alloc | apply pw_below_drewN | apply below_drew1 | refine below_set ?_ GE226.out) | exact HB.out)) hb)
            clear BK226
            clear HB
            have BK226 := n0_
            have HB := n1_
            clear n0_ n1_
            (try clear hb)
            (try clear hb2)
            (try clear hk)
            (try clear hi)
            refine hK.out _ _ ⟨(blk_cell BK226.out 0).trans rfl, (blk_cell BK226.out 1).trans rfl, ((HB.out.cell (World.block_lt_of_cell? w _ hw232_0)).trans hw232_0), ((HB.out.cell (World.block_lt_of_cell? w _ hw232_1)).trans hw232_1), ((HB.out.cell (World.block_lt_of_cell? w _ hw232_2)).trans hw232_2)⟩ (fun hHeld => ?_)
            clear hK K
            refine norm_ (a' := ?_) ?_ ?_
            rotate_left
            ·show Act.put _ (some 62) _ = _
             simp only [Act.put, List.setIfInBounds_toArray, List.set_cons_zero, List.set_cons_succ, i64_w]
             rfl
            refine pure_ (i := 9) (N := some 63) (v := ?_) (a' := ?_) (ms 10 1023) rfl rfl (any_of HT_.out (by kernel_rfl)) (fun _ _ _ h => h) (Or.inl ⟨by rfl, ?_⟩) ?_ ?_
            rotate_left
            ·intro w'
             go_simp
             with_reducible rfl
            rotate_left
            ·simp only [Act.put, List.setIfInBounds_toArray, List.set_cons_zero, List.set_cons_succ, i64_w]
             rfl
            refine done_ (done_of HT_.out (by kernel_rfl)) ?_
            try go_wp2
            go_roundg k3
            case measure => have := HJ1.out; have := HK2.out; have := HK3.out; omega
            case rel => exact ⟨(wrap64 (x5_3 + 1)), (by first | rfl | (simp; done) | (simp [*]; done)), H', ⟨by have := HJ1.out; have := HK2.out; have := HK3.out; omega⟩, ⟨by (with_reducible repeat (first | refine blk_drewN ?_ _ | refine blk_drew ?_ | refine blk_alloc ?_ _)); exact BK226.out⟩, ⟨by repeat (first | (with_reducible first | exact HB.out | apply below_alloc | apply pw_below_drewN | apply below_drew1 | refine below_set ?_ GE226.out) | exact HB.out)⟩⟩
           ·replace c22 := Bool.eq_false_iff.mpr c22
            subst c22
            have H1 : (some false) = some r := by rw [if_neg (show ¬ (false = true) by decide)] at H; exact H
            clear H
            have H := H1
            clear H1
            obtain rfl := Option.some.inj H
            have hcz26_0 : wr.cell? ⟨gb226, 0, none⟩ = some (.slice A0_0 l0_0.length c0_0) := (blk_cell BK226.out 0).trans rfl
            have hcz26_1 : wr.cell? ⟨gb226, 1, none⟩ = some (.slice A0_1 l0_1.length c0_1) := (blk_cell BK226.out 1).trans rfl
            have hfz26_0 := blk_frozen BK226.out 0
            have hfz26_1 := blk_frozen BK226.out 1
            try go_wp2
            have n0_ := Aside0.mk (blk_drew BK226.out)
            have n1_ := Aside0.mk (below_drew1 HB.out)
            clear BK226
            clear HB
            have BK226 := n0_
            have HB := n1_
            clear n0_ n1_
            have p232 : 0 ≤ (x5_3 : Int) := of_decide_eq_true (by first | (with_reducible assumption) | assumption)
            have q232 : x5_3 < (l0_1.length : Int) := of_decide_eq_true (by first | (with_reducible assumption) | assumption)
            obtain ⟨ad232, A232_0, c232_0, A232_1, c232_1, A232_2, c232_2, e232, hx232_0, hx232_1, hx232_2, hl232_0, hi232_0, hl232_1, hi232_1, hl232_2, hi232_2⟩ := at_T59 HR0_1.out x5_3 p232 q232
            have hw232_2 := hx232_2
            have hw232_1 := hx232_1
            have hw232_0 := hx232_0
            cases e232
            replace hx232_0 := (HB.out.cell (World.block_lt_of_cell? w _ hx232_0)).trans hx232_0
            replace hx232_1 := (HB.out.cell (World.block_lt_of_cell? w _ hx232_1)).trans hx232_1
            replace hx232_2 := (HB.out.cell (World.block_lt_of_cell? w _ hx232_2)).trans hx232_2
            have HR232_0 := Aside0.mk hi232_0
            have HC232_0 := Aside0.mk hl232_0
            clear hi232_0 hl232_0
            have HR232_1 := Aside0.mk hi232_1
            have HC232_1 := Aside0.mk hl232_1
            clear hi232_1 hl232_1
            have HR232_2 := Aside0.mk hi232_2
            have HC232_2 := Aside0.mk hl232_2
            clear hi232_2 hl232_2
            replace p232 := eq_true p232
            replace q232 := eq_true q232
            refine start_ (n := 10) (S := fun w' => w'.cell? ⟨gb226, 0, none⟩ = some (.slice A0_0 l0_0.length c0_0) ∧ w'.cell? ⟨gb226, 1, none⟩ = some (.slice (some ad232) l0_1.length c0_1) ∧ w'.cell? (ad232.add ((x5_3).toNat * 3)) = some (.slice A232_0 ((rd_T59 l0_1 x5_3).f0).length c232_0) ∧ w'.cell? ⟨(ad232.add ((x5_3).toNat * 3)).block, (ad232.add ((x5_3).toNat * 3)).off + 1, none⟩ = some (.slice A232_1 ((rd_T59 l0_1 x5_3).f1).length c232_1) ∧ w'.cell? ⟨(ad232.add ((x5_3).toNat * 3)).block, (ad232.add ((x5_3).toNat * 3)).off + 2, none⟩ = some (.slice A232_2 ((rd_T59 l0_1 x5_3).f2).length c232_2)) (ds := []) (ms 10 0) (by kernel_rfl) rfl rfl ⟨(blk_cell BK226.out 0).trans rfl, (blk_cell BK226.out 1).trans rfl, ((HB.out.cell (World.block_lt_of_cell? w _ hw232_0)).trans hw232_0), ((HB.out.cell (World.block_lt_of_cell? w _ hw232_1)).trans hw232_1), ((HB.out.cell (World.block_lt_of_cell? w _ hw232_2)).trans hw232_2)⟩ (fun hHeld => ?_); refine with_tabW spec_SystemValid.tab13 spec_SystemValid.bits13 (fun HT_ HW_ => ?_)
            generalize wr.drew = w27 at BK226 HB HR232_0 HR232_1 HR232_2 hx232_0 hx232_1 hx232_2 hHeld ⊢
            refine pure_ (i := 0) (N := some 54) (v := ?_) (a' := ?_) (ms 10 1) rfl rfl (any_of HT_.out (by kernel_rfl)) (fun _ _ _ h => h) (Or.inl ⟨by rfl, ?_⟩) ?_ ?_
            rotate_left
            ·intro w'
             go_simp
             with_reducible rfl
            rotate_left
            ·simp only [Act.put, List.setIfInBounds_toArray, List.set_cons_zero, List.set_cons_succ, i64_w]
             rfl
            refine pure_ (i := 2) (N := some 56) (v := ?_) (a' := ?_) (ms 10 5) rfl rfl (any_of HT_.out (by kernel_rfl)) (fun _ _ _ h => h) (Or.inl ⟨by rfl, ?_⟩) ?_ ?_
            rotate_left
            ·intro w'
             go_simp
             with_reducible rfl
            rotate_left
            ·simp only [Act.put, List.setIfInBounds_toArray, List.set_cons_zero, List.set_cons_succ, i64_w]
             rfl
            refine pure_ (i := 5) (N := some 59) (v := ?_) (a' := ?_) (ms 10 37) rfl rfl (any_of HT_.out (by kernel_rfl)) (fun _ _ _ h => h) (Or.inl ⟨by rfl, ?_⟩) ?_ ?_
            rotate_left
            ·intro w'
             go_simp
             with_reducible rfl
            rotate_left
            ·simp only [Act.put, List.setIfInBounds_toArray, List.set_cons_zero, List.set_cons_succ, i64_w]
             rfl
            refine take_ (i := 1) (N := some 55) (v := ?_) (a' := ?_) (ms 10 39) rfl rfl (take_ofW HT_.out HW_.out (by kernel_rfl)) (fun _ _ _ h => h) (Or.inl ⟨by rfl, ?_⟩) hHeld ?_ ?_
            rotate_left
            ·rintro w' ⟨s0, s1, s2, s3, s4⟩
             go_simp
             with_reducible rfl
            rotate_left
            ·simp only [Act.put, List.setIfInBounds_toArray, List.set_cons_zero, List.set_cons_succ, i64_w]
             rfl
            refine pure_ (i := 3) (N := some 57) (v := ?_) (a' := ?_) (ms 10 47) rfl rfl (any_of HT_.out (by kernel_rfl)) (fun _ _ _ h => h) (Or.inl ⟨by rfl, ?_⟩) ?_ ?_
            rotate_left
            ·intro w'
             go_simp
             with_reducible rfl
            rotate_left
            ·simp only [Act.put, List.setIfInBounds_toArray, List.set_cons_zero, List.set_cons_succ, i64_w]
             rfl
            refine take_ (i := 4) (N := some 58) (v := ?_) (a' := ?_) (ms 10 63) rfl rfl (take_ofW HT_.out HW_.out (by kernel_rfl)) (fun _ _ _ h => h) (Or.inl ⟨by rfl, ?_⟩) hHeld ?_ ?_
            rotate_left
            ·rintro w' ⟨s0, s1, s2, s3, s4⟩
             go_simp
             with_reducible rfl
            rotate_left
            ·simp only [Act.put, List.setIfInBounds_toArray, List.set_cons_zero, List.set_cons_succ, i64_w]
             rfl
            refine take_ (i := 6) (N := some 60) (v := ?_) (a' := ?_) (ms 10 127) rfl rfl (take_ofW HT_.out HW_.out (by kernel_rfl)) (fun _ _ _ h => h) (Or.inl ⟨by rfl, ?_⟩) hHeld ?_ ?_
            rotate_left
            ·rintro w' ⟨s0, s1, s2, s3, s4⟩
             go_simp
             with_reducible rfl
            rotate_left
            ·simp only [Act.put, List.setIfInBounds_toArray, List.set_cons_zero, List.set_cons_succ, i64_w]
             rfl
            refine pure_ (i := 7) (N := some 61) (v := ?_) (a' := ?_) (ms 10 255) rfl rfl (any_of HT_.out (by kernel_rfl)) (fun _ _ _ h => h) (Or.inl ⟨by rfl, ?_⟩) ?_ ?_
            rotate_left
            ·intro w'
             go_simp
             with_reducible rfl
            rotate_left
            ·simp only [Act.put, List.setIfInBounds_toArray, List.set_cons_zero, List.set_cons_succ, i64_w]
             rfl
            refine one_ (i := 8) (N := some 62) (ms 10 511) rfl rfl (one_of HT_.out (by kernel_rfl)) (by decide) (fun K hK => ?_)
            refine goes_ Try.func30 (by kernel_rfl) rfl #[.agg #[.slice A232_0 ((rd_T59 l0_1 x5_3).f0).length c232_0, .slice A232_1 ((rd_T59 l0_1 x5_3).f1).length c232_1, .slice A232_2 ((rd_T59 l0_1 x5_3).f2).length c232_2], .int .i64 (l0_0.length : Int)] (by rfl) rfl rfl (by (try simp only [List.map_toArray, List.map_cons, List.map_nil]); first | done | rfl | (simp only [List.length_drop, List.length_take]; rfl)) ?_
            with_reducible refine (spec_l2Rule.calls k3 _ _ ((rd_T59 l0_1 x5_3).f0) _ _ ((rd_T59 l0_1 x5_3).f1) _ _ ((rd_T59 l0_1 x5_3).f2) (l0_0.length : Int) false _ ?side1 ?side2 ?side3 ?side4 ?side5 ?side6 A21.out).mono ?_
            (case side1 => repeat (first | exact (Kd.C_below HR232_0.out HB.out) | (with_reducible refine Kd.C_alloc ?_ _) | (with_reducible refine Kd.C_drewN ?_ _) | (with_reducible refine Kd.C_drew ?_)))
            (case side2 => exact HC232_0.out)
            (case side3 => repeat (first | exact (Kd.C_below HR232_1.out HB.out) | (with_reducible refine Kd.C_alloc ?_ _) | (with_reducible refine Kd.C_drewN ?_ _) | (with_reducible refine Kd.C_drew ?_)))
            (case side4 => exact HC232_1.out)
            (case side5 => repeat (first | exact (Kd.C_below HR232_2.out HB.out) | (with_reducible refine Kd.C_alloc ?_ _) | (with_reducible refine Kd.C_drewN ?_ _) | (with_reducible refine Kd.C_drew ?_)))
            (case side6 => exact HC232_2.out)
            rintro e w28 ⟨rfl, hb⟩
            refine ⟨_, rfl, ?_⟩
            have n0_ := Aside0.mk (blk_below (g := gb226) (o := .cells #[.slice A0_0 l0_0.length c0_0, .slice (some ad232) l0_1.length c0_1] 35 (0, 0)) (by (with_reducible repeat (first | refine blk_drewN ?_ _ | refine blk_drew ?_ | refine blk_alloc ?_ _)); exact BK226.out) hb)
            have n1_ := Aside0.mk (below_step (by repeat (first | (with_reducible first | exact HB.out | apply below_alloc | apply pw_below_drewN | apply below_drew1 | refine below_set ?_ GE226.out) | exact HB.out)) hb)
            clear BK226
            clear HB
            have BK226 := n0_
            have HB := n1_
            clear n0_ n1_
            (try clear hb)
            (try clear hb2)
            (try clear hk)
            (try clear hi)
            refine hK.out _ _ ⟨(blk_cell BK226.out 0).trans rfl, (blk_cell BK226.out 1).trans rfl, ((HB.out.cell (World.block_lt_of_cell? w _ hw232_0)).trans hw232_0), ((HB.out.cell (World.block_lt_of_cell? w _ hw232_1)).trans hw232_1), ((HB.out.cell (World.block_lt_of_cell? w _ hw232_2)).trans hw232_2)⟩ (fun hHeld => ?_)
            clear hK K
            refine norm_ (a' := ?_) ?_ ?_
            rotate_left
            ·show Act.put _ (some 62) _ = _
             simp only [Act.put, List.setIfInBounds_toArray, List.set_cons_zero, List.set_cons_succ, i64_w]
             rfl
            refine pure_ (i := 9) (N := some 63) (v := ?_) (a' := ?_) (ms 10 1023) rfl rfl (any_of HT_.out (by kernel_rfl)) (fun _ _ _ h => h) (Or.inl ⟨by rfl, ?_⟩) ?_ ?_
            rotate_left
            ·intro w'
             go_simp
             with_reducible rfl
            rotate_left
            ·simp only [Act.put, List.setIfInBounds_toArray, List.set_cons_zero, List.set_cons_succ, i64_w]
             rfl
            refine done_ (done_of HT_.out (by kernel_rfl)) ?_
            try go_wp2
            go_ret
            exact ⟨by first | rfl | (simp [errW_none, errW_some] <;> rfl) | (simp [*, errW_none, errW_some] <;> rfl), by repeat (first | (with_reducible first | exact HB.out | apply below_alloc | apply pw_below_drewN | apply below_drew1 | refine below_set ?_ GE226.out) | exact HB.out)⟩
          ·rw [if_neg c20] at H
           exact absurd H (by simp)
         ·rw [if_neg c19] at H
          have c19b0 : decide (x5_3 < (l0_1.length : Int)) = false := decide_eq_false c19
          clear c19
          obtain rfl := Option.some.inj H
          have hcz29_0 : wr.cell? ⟨gb226, 0, none⟩ = some (.slice A0_0 l0_0.length c0_0) := (blk_cell BK226.out 0).trans rfl
          have hcz29_1 : wr.cell? ⟨gb226, 1, none⟩ = some (.slice A0_1 l0_1.length c0_1) := (blk_cell BK226.out 1).trans rfl
          have hfz29_0 := blk_frozen BK226.out 0
          have hfz29_1 := blk_frozen BK226.out 1
          go_wp2
          go_ret
          exact ⟨by first | rfl | (simp [errW_none, errW_some] <;> rfl) | (simp [*, errW_none, errW_some] <;> rfl), by repeat (first | (with_reducible first | exact HB.out | apply below_alloc | apply pw_below_drewN | apply below_drew1 | refine below_set ?_ GE226.out) | exact HB.out)⟩

end Go.Proofs.Ytnidjlhbejifoaa.XFnSameRun
