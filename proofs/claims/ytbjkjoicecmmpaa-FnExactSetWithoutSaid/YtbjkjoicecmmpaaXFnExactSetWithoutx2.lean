/- Printed by a program of this session out of the translation: the Go functions that a law uses as plain Lean functions, with the proofs of their calls, or the law's row.
Conditions: those that each theorem states. -/
import Derived.Test.YtbjkjoicecmmpaaXFnExactSetWithoutx0
import Derived.Test.YtbjkjoicecmmpaaXFnExactSetWithoutx1
namespace Go.Proofs.Ytbjkjoicecmmpaa.XFnExactSetWithout
open Go.RowKit Go.Proofs.YtbjkjoicecmmpaaW.PrintWords Go.Proofs.YtbjkjoicecmmpaaW.PrintLast Go.Proofs.YtbjkjoicecmmpaaW.PrintMore
attribute [local go_sem] max2_int min2_int max_two min_two max_three min_three max_four min_four   -- for this text's walks alone
set_option linter.unusedVariables false
set_option linter.unusedSimpArgs false

/-! ### spec_l4Mix: function 113 -/
mutual
def spec_l4Mix.j0 : Nat → List Int → List Int → Int → List Int → Bool → Option (List Int)
  | 0, _, _, _, _, _ => none
  | k + 1, x0, x1, x2, x7, x19 => if x19 = true then (some x7) else ((spec_l4Marks.f k x0 400).bind fun t124 => ((spec_l4Marks.f k x1 400).bind fun t127 => (spec_l4Mix.l0 k x2 x7 t124 t127 0)))
def spec_l4Mix.l0 : Nat → Int → List Int → List Bool → List Bool → Int → Option (List Int)
  | 0, _, _, _, _, _ => none
  | k + 1, x2, x7, x8, x9, x10 => if x10 < 400 then (if x2 = 0 then (if 0 ≤ x10 then (if x10 < (x8.length : Int) then (if rdOf false x8 x10 = true then (if x10 < (x9.length : Int) then (if rdOf false x9 x10 = true then (if x7.length < 17592186044416 then (spec_l4Mix.l0 k x2 (x7 ++ [x10]) x8 x9 (wrap64 (x10 + 1))) else (none)) else (if x2 = 1 then (if x7.length < 17592186044416 then (spec_l4Mix.l0 k x2 (x7 ++ [x10]) x8 x9 (wrap64 (x10 + 1))) else (none)) else (if x2 = 2 then (if x7.length < 17592186044416 then (spec_l4Mix.l0 k x2 (x7 ++ [x10]) x8 x9 (wrap64 (x10 + 1))) else (none)) else (spec_l4Mix.l0 k x2 x7 x8 x9 (wrap64 (x10 + 1)))))) else (none)) else (if x2 = 1 then (if x10 < (x9.length : Int) then (if rdOf false x9 x10 = true then (if x7.length < 17592186044416 then (spec_l4Mix.l0 k x2 (x7 ++ [x10]) x8 x9 (wrap64 (x10 + 1))) else (none)) else (if x2 = 2 then (spec_l4Mix.l0 k x2 x7 x8 x9 (wrap64 (x10 + 1))) else (spec_l4Mix.l0 k x2 x7 x8 x9 (wrap64 (x10 + 1))))) else (none)) else (if x2 = 2 then (spec_l4Mix.l0 k x2 x7 x8 x9 (wrap64 (x10 + 1))) else (spec_l4Mix.l0 k x2 x7 x8 x9 (wrap64 (x10 + 1)))))) else (none)) else (none)) else (if x2 = 1 then (if 0 ≤ x10 then (if x10 < (x8.length : Int) then (if rdOf false x8 x10 = true then (if x7.length < 17592186044416 then (spec_l4Mix.l0 k x2 (x7 ++ [x10]) x8 x9 (wrap64 (x10 + 1))) else (none)) else (if x10 < (x9.length : Int) then (if rdOf false x9 x10 = true then (if x7.length < 17592186044416 then (spec_l4Mix.l0 k x2 (x7 ++ [x10]) x8 x9 (wrap64 (x10 + 1))) else (none)) else (if x2 = 2 then (spec_l4Mix.l0 k x2 x7 x8 x9 (wrap64 (x10 + 1))) else (spec_l4Mix.l0 k x2 x7 x8 x9 (wrap64 (x10 + 1))))) else (none))) else (none)) else (none)) else (if x2 = 2 then (if 0 ≤ x10 then (if x10 < (x8.length : Int) then (if rdOf false x8 x10 = true then (if x10 < (x9.length : Int) then (if rdOf false x9 x10 = true then (spec_l4Mix.l0 k x2 x7 x8 x9 (wrap64 (x10 + 1))) else (if x7.length < 17592186044416 then (spec_l4Mix.l0 k x2 (x7 ++ [x10]) x8 x9 (wrap64 (x10 + 1))) else (none))) else (none)) else (spec_l4Mix.l0 k x2 x7 x8 x9 (wrap64 (x10 + 1)))) else (none)) else (none)) else (spec_l4Mix.l0 k x2 x7 x8 x9 (wrap64 (x10 + 1)))))) else (some x7)
end
def spec_l4Mix.f (k : Nat) (l0 : List Int) (l1 : List Int) (a2 : Int) : Option (List Int) := (some (([] : List Int) : List Int)).bind fun y119 => ((spec_l4Set.f k l0).bind fun t122 => (if t122 = true then ((spec_l4Set.f k l1).bind fun t123 => (spec_l4Mix.j0 k l0 l1 a2 y119 (!t123))) else (spec_l4Mix.j0 k l0 l1 a2 y119 true)))
theorem spec_l4Mix.mono_l : ∀ k, (∀ y0 y1 y2 y3 y4, LeO (spec_l4Mix.j0 k y0 y1 y2 y3 y4) (spec_l4Mix.j0 (k + 1) y0 y1 y2 y3 y4)) ∧ (∀ y0 y1 y2 y3 y4, LeO (spec_l4Mix.l0 k y0 y1 y2 y3 y4) (spec_l4Mix.l0 (k + 1) y0 y1 y2 y3 y4))
  | 0 => ⟨fun _ _ _ _ _ r h => by simp [spec_l4Mix.j0] at h, fun _ _ _ _ _ r h => by simp [spec_l4Mix.l0] at h⟩
  | k + 1 => by
    obtain ⟨ih0, ih1⟩ := spec_l4Mix.mono_l k
    refine ⟨?_, ?_⟩
    · intro y0 y1 y2 y3 y4
      unfold spec_l4Mix.j0
      repeat' first
      | (with_reducible exact ih0 _ _ _ _ _)
      | (with_reducible exact ih1 _ _ _ _ _)
      | (with_reducible exact spec_l4Marks.mono _ _ _)
      | (with_reducible exact spec_l4Set.mono _ _)
      | (with_reducible exact LeO.refl _)
      | (with_reducible exact LeO.none _)
      | (with_reducible refine LeO.ite ?_ ?_)
      | (with_reducible refine LeO.bind ?_ (fun _ => ?_))
      | exact ih0 _ _ _ _ _
      | exact ih1 _ _ _ _ _
      | exact spec_l4Marks.mono _ _ _
      | exact spec_l4Set.mono _ _
      | exact LeO.none _
      | refine LeO.ite ?_ ?_
      | refine LeO.bind ?_ (fun _ => ?_)
    · intro y0 y1 y2 y3 y4
      unfold spec_l4Mix.l0
      repeat' first
      | (with_reducible exact ih0 _ _ _ _ _)
      | (with_reducible exact ih1 _ _ _ _ _)
      | (with_reducible exact spec_l4Marks.mono _ _ _)
      | (with_reducible exact spec_l4Set.mono _ _)
      | (with_reducible exact LeO.refl _)
      | (with_reducible exact LeO.none _)
      | (with_reducible refine LeO.ite ?_ ?_)
      | (with_reducible refine LeO.bind ?_ (fun _ => ?_))
      | exact ih0 _ _ _ _ _
      | exact ih1 _ _ _ _ _
      | exact spec_l4Marks.mono _ _ _
      | exact spec_l4Set.mono _ _
      | exact LeO.none _
      | refine LeO.ite ?_ ?_
      | refine LeO.bind ?_ (fun _ => ?_)
theorem spec_l4Mix.mono : ∀ a0 a1 a2 k, LeO (spec_l4Mix.f k a0 a1 a2) (spec_l4Mix.f (k + 1) a0 a1 a2) := by
  intro a0 a1 a2 k
  obtain ⟨ih0, ih1⟩ := spec_l4Mix.mono_l k
  unfold spec_l4Mix.f
  repeat' first
      | (with_reducible exact ih0 _ _ _ _ _)
      | (with_reducible exact ih1 _ _ _ _ _)
      | (with_reducible exact spec_l4Marks.mono _ _ _)
      | (with_reducible exact spec_l4Set.mono _ _)
      | (with_reducible exact LeO.refl _)
      | (with_reducible exact LeO.none _)
      | (with_reducible refine LeO.ite ?_ ?_)
      | (with_reducible refine LeO.bind ?_ (fun _ => ?_))
      | exact ih0 _ _ _ _ _
      | exact ih1 _ _ _ _ _
      | exact spec_l4Marks.mono _ _ _
      | exact spec_l4Set.mono _ _
      | exact LeO.none _
      | refine LeO.ite ?_ ?_
      | refine LeO.bind ?_ (fun _ => ?_)
set_option maxHeartbeats 8000000 in
set_option maxRecDepth 100000 in
theorem spec_l4Mix.calls (k : Nat) (A0 : Option Addr) (c0 : Nat) (l0 : List Int) (A1 : Option Addr) (c1 : Nat) (l1 : List Int) (a2 : Int) (r : List Int) (w : World) (hr0 : Kd.C (Kd.int .i64) w A0 l0.length l0) (hc0 : l0.length ≤ c0) (hr1 : Kd.C (Kd.int .i64) w A1 l1.length l1) (hc1 : l1.length ≤ c1) (h : spec_l4Mix.f k l0 l1 a2 = some r) :
    Calls Try.prog 113 #[.slice A0 l0.length c0, .slice A1 l1.length c1, .int .i64 a2] w fun e w' => ∃ v0_ : Value, e = .returned (v0_) ∧ Kd.R (Kd.int .i64) 3 w' w.heap.size (fun _ => True) v0_ r ∧ Below w.heap.size w w' := by
  have HR0 := Aside0.mk hr0
  have HC0 := Aside0.mk hc0
  clear hr0 hc0
  have HR1 := Aside0.mk hr1
  have HC1 := Aside0.mk hc1
  clear hr1 hc1
  have HB := Aside0.mk (Below.refl w.heap.size w)
  have H : ((some (([] : List Int) : List Int)).bind fun y119 => ((spec_l4Set.f k l0).bind fun t122 => (if t122 = true then ((spec_l4Set.f k l1).bind fun t123 => (spec_l4Mix.j0 k l0 l1 a2 y119 (!t123))) else (spec_l4Mix.j0 k l0 l1 a2 y119 true)))) = some r := h
  clear h
  obtain ⟨y119, hy119⟩ : ∃ y_ : List Int, y_ = (([] : List Int)) := ⟨_, rfl⟩
  replace H : ((spec_l4Set.f k l0).bind fun t122 => (if t122 = true then ((spec_l4Set.f k l1).bind fun t123 => (spec_l4Mix.j0 k l0 l1 a2 y119 (!t123))) else (spec_l4Mix.j0 k l0 l1 a2 y119 true))) = some r := by first | (rw [hy119]; with_reducible exact H) | (have H2_ := (Option.bind_some _ _).symm.trans H; rw [hy119]; with_reducible exact H2_) | (have H2_ := (Option.bind_some _ _).symm.trans H; with_reducible exact H2_) | with_reducible exact H | (rw [hy119]; exact H) | exact H
  have Ny119 := Aside0.mk hy119
  clear hy119
  have HC4 := Aside0.mk H
  clear H
  go_enter Try.func113, Try.ntmps113
  go_upto_region 2 with (first | ((with_reducible refine gate_dst (N := 11) rfl ?_); refine Kd.R_lit (Kd.int .i64) _ 3 ?hg (N := 11) ?hd (xs := ([] : List Int)) (inner := []) (ok := fun _ => True) (okp := fun _ => True) ?hr ?hp (fun _ hk => hk) trivial (Below.refl _ _) (Nat.le_refl _) (by simp) ?_; (case hd => rfl); (case hg => rfl); (case hr => first | (go_simp; done) | (go_simp; rfl)); (case hp => exact (Reps.none _ _)); intro v120 w5 ho6 hb hg_ hnew_; clear hg_ hnew_; (first | rw [← Ny119.out] at ho6 | (simp only [Int.reduceToNat] at ho6; rw [← Ny119.out] at ho6)); have n0_ := Aside0.mk (Kd.R_lower ho6 (below_size (by repeat (first | (with_reducible first | exact HB.out | apply below_alloc | apply pw_below_drewN | apply below_drew1) | exact HB.out)))); have n1_ := Aside0.mk (below_step (by repeat (first | (with_reducible first | exact HB.out | apply below_alloc | apply pw_below_drewN | apply below_drew1) | exact HB.out)) hb); clear HB; have HO121 := n0_; have HB := n1_; clear n0_ n1_; clear hb ho6))
  (try simp only [Act.put, List.setIfInBounds_toArray, List.set_cons_zero, List.set_cons_succ])
  go_cut [19] (fun v19 wc => ∃ (kq : Nat) (x19_3 : Bool), v19 = .bool x19_3 ∧ Aside0 (spec_l4Mix.j0 kq l0 l1 a2 y119 x19_3 = some r) ∧ Aside0 (kq ≤ k) ∧ Aside0 (Kd.R (Kd.int .i64) 3 wc w.heap.size (fun _ => True) v120 y119) ∧ Aside0 (Below w.heap.size w wc))
  case first =>
    have H := HC4.out
    clear HC4
    replace H := Option.bind_eq_some_iff.mp H
    obtain ⟨t122, A70, H⟩ := H
    replace H : (if t122 = true then ((spec_l4Set.f k l1).bind fun t123 => (spec_l4Mix.j0 k l0 l1 a2 y119 (!t123))) else (spec_l4Mix.j0 k l0 l1 a2 y119 true)) = some r := H
    have A7 := Aside0.mk A70
    clear A70
    by_cases c8 : t122 = true
    · subst c8
      have H1 : ((spec_l4Set.f k l1).bind fun t123 => (spec_l4Mix.j0 k l0 l1 a2 y119 (!t123))) = some r := by rw [if_pos rfl] at H; exact H
      clear H
      have H := H1
      clear H1
      replace H := Option.bind_eq_some_iff.mp H
      obtain ⟨t123, A90, H⟩ := H
      replace H : (spec_l4Mix.j0 k l0 l1 a2 y119 (!t123)) = some r := H
      have A9 := Aside0.mk A90
      clear A90
      have H' := Aside0.mk H
      clear H
      go_wp2_with (first | ((with_reducible refine gate_callee (f := 139) rfl ?_); refine goesL_ (some 13) rfl rfl Try.func139 (by kernel_rfl) rfl #[.slice A0 l0.length c0] rfl (by (try simp only [List.map_toArray, List.map_cons, List.map_nil]); first | done | rfl | (simp only [List.length_drop, List.length_take]; rfl)) ?_; (with_reducible refine (spec_l4Set.calls k _ _ l0 true _ ?side1 ?side2 A7.out).mono ?_); (case side1 => repeat (first | exact (Kd.C_below HR0.out HB.out) | (with_reducible refine Kd.C_alloc ?_ _) | (with_reducible refine Kd.C_drewN ?_ _) | (with_reducible refine Kd.C_drew ?_))); (case side2 => exact HC0.out); rintro e w' ⟨rfl, ⟨nd, rfl⟩⟩; refine ⟨_, rfl, ?_⟩) | (go_at_call 139; (with_reducible refine (spec_l4Set.calls k _ _ l1 t123 _ ?side1 ?side2 A9.out).mono ?_); (case side1 => repeat (first | exact (Kd.C_below HR1.out (by repeat (first | (with_reducible first | exact HB.out | apply below_alloc | apply pw_below_drewN | apply below_drew1) | exact HB.out))) | (with_reducible refine Kd.C_alloc ?_ _) | (with_reducible refine Kd.C_drewN ?_ _) | (with_reducible refine Kd.C_drew ?_))); (case side2 => exact HC1.out); rintro e w' ⟨rfl, ⟨nd, rfl⟩⟩))
      go_meet
      case rel => exact ⟨_, (!t123), (by first | rfl | (simp; done) | (simp [*]; done)), H', ⟨by first | omega | exact Nat.le_refl _⟩, ⟨by (with_reducible repeat (first | apply Kd.R_alloc | apply Kd.R_drewN | apply Kd.R_drew)); exact HO121.out⟩, ⟨by repeat (first | (with_reducible first | exact HB.out | apply below_alloc | apply pw_below_drewN | apply below_drew1) | exact HB.out)⟩⟩
    · replace c8 := Bool.eq_false_iff.mpr c8
      subst c8
      have H1 : (spec_l4Mix.j0 k l0 l1 a2 y119 true) = some r := by rw [if_neg (show ¬ (false = true) by decide)] at H; exact H
      clear H
      have H := H1
      clear H1
      have H' := Aside0.mk H
      clear H
      go_wp2_with (first | ((with_reducible refine gate_callee (f := 139) rfl ?_); refine goesL_ (some 13) rfl rfl Try.func139 (by kernel_rfl) rfl #[.slice A0 l0.length c0] rfl (by (try simp only [List.map_toArray, List.map_cons, List.map_nil]); first | done | rfl | (simp only [List.length_drop, List.length_take]; rfl)) ?_; (with_reducible refine (spec_l4Set.calls k _ _ l0 false _ ?side1 ?side2 A7.out).mono ?_); (case side1 => repeat (first | exact (Kd.C_below HR0.out HB.out) | (with_reducible refine Kd.C_alloc ?_ _) | (with_reducible refine Kd.C_drewN ?_ _) | (with_reducible refine Kd.C_drew ?_))); (case side2 => exact HC0.out); rintro e w' ⟨rfl, ⟨nd, rfl⟩⟩; refine ⟨_, rfl, ?_⟩))
      go_meet
      case rel => exact ⟨_, (true), (by first | rfl | (simp; done) | (simp [*]; done)), H', ⟨by first | omega | exact Nat.le_refl _⟩, ⟨by (with_reducible repeat (first | apply Kd.R_alloc | apply Kd.R_drewN | apply Kd.R_drew)); exact HO121.out⟩, ⟨by repeat (first | (with_reducible first | exact HB.out | apply below_alloc | apply pw_below_drewN | apply below_drew1) | exact HB.out)⟩⟩
  case rest =>
    clear HC4
    try clear c1
    try clear p2
    try clear c8
    obtain ⟨kq, x19_3, rfl, HA, HJ3, HO_7, HB⟩ := hcut
    cases kq with
    | zero => exact absurd HA.out (by simp [spec_l4Mix.j0])
    | succ kj3 =>
      have H := HA.out
      clear HA
      simp only [spec_l4Mix.j0] at H
      by_cases c10 : x19_3 = true
      · subst c10
        have H1 : (some y119) = some r := by rw [if_pos rfl] at H; exact H
        clear H
        have H := H1
        clear H1
        obtain rfl := Option.some.inj H
        go_wp2
        go_ret
        exact ⟨_, by first | rfl | (simp [errW_none, errW_some] <;> rfl) | (simp [*, errW_none, errW_some] <;> rfl), by (with_reducible repeat (first | apply Kd.R_alloc | apply Kd.R_drewN | apply Kd.R_drew)); exact HO_7.out, by repeat (first | (with_reducible first | exact HB.out | apply below_alloc | apply pw_below_drewN | apply below_drew1) | exact HB.out)⟩
      · replace c10 := Bool.eq_false_iff.mpr c10
        subst c10
        have H1 : ((spec_l4Marks.f kj3 l0 400).bind fun t124 => ((spec_l4Marks.f kj3 l1 400).bind fun t127 => (spec_l4Mix.l0 kj3 a2 y119 t124 t127 0))) = some r := by rw [if_neg (show ¬ (false = true) by decide)] at H; exact H
        clear H
        have H := H1
        clear H1
        replace H := Option.bind_eq_some_iff.mp H
        obtain ⟨t124, A110, H⟩ := H
        replace H : ((spec_l4Marks.f kj3 l1 400).bind fun t127 => (spec_l4Mix.l0 kj3 a2 y119 t124 t127 0)) = some r := H
        have A11 := Aside0.mk A110
        clear A110
        replace H := Option.bind_eq_some_iff.mp H
        obtain ⟨t127, A120, H⟩ := H
        replace H : (spec_l4Mix.l0 kj3 a2 y119 t124 t127 0) = some r := H
        have A12 := Aside0.mk A120
        clear A120
        have H' := Aside0.mk H
        clear H
        go_wp2_with (first | ((with_reducible refine gate_callee (f := 140) rfl ?_); refine goesL_ (some 22) rfl rfl Try.func140 (by kernel_rfl) rfl #[.slice A0 l0.length c0, .int .i64 400] rfl (by (try simp only [List.map_toArray, List.map_cons, List.map_nil]); first | done | rfl | (simp only [List.length_drop, List.length_take]; rfl)) ?_; (with_reducible refine (spec_l4Marks.calls kj3 _ _ l0 400 t124 _ ?side1 ?side2 A11.out).mono ?_); (case side1 => repeat (first | exact (Kd.C_below HR0.out HB.out) | (with_reducible refine Kd.C_alloc ?_ _) | (with_reducible refine Kd.C_drewN ?_ _) | (with_reducible refine Kd.C_drew ?_))); (case side2 => exact HC0.out); rintro e w13 ⟨v125, rfl, ho0, hb⟩; refine ⟨_, rfl, ?_⟩; have n0_ := Aside0.mk (Kd.R_below (by (with_reducible repeat (first | apply Kd.R_alloc | apply Kd.R_drewN | apply Kd.R_drew)); exact HO_7.out) hb); have n1_ := Aside0.mk (Kd.R_lower ho0 (below_size (by repeat (first | (with_reducible first | exact HB.out | apply below_alloc | apply pw_below_drewN | apply below_drew1) | exact HB.out)))); have n2_ := Aside0.mk (below_step (by repeat (first | (with_reducible first | exact HB.out | apply below_alloc | apply pw_below_drewN | apply below_drew1) | exact HB.out)) hb); clear HO_7; clear HB; have HO_7 := n0_; have HO126 := n1_; have HB := n2_; clear n0_ n1_ n2_; (try clear hb); (try clear hb2); (try clear hk); (try clear hi); (try clear ho0)) | ((with_reducible refine gate_callee (f := 140) rfl ?_); refine goesL_ (some 24) rfl rfl Try.func140 (by kernel_rfl) rfl #[.slice A1 l1.length c1, .int .i64 400] rfl (by (try simp only [List.map_toArray, List.map_cons, List.map_nil]); first | done | rfl | (simp only [List.length_drop, List.length_take]; rfl)) ?_; (with_reducible refine (spec_l4Marks.calls kj3 _ _ l1 400 t127 _ ?side1 ?side2 A12.out).mono ?_); (case side1 => repeat (first | exact (Kd.C_below HR1.out HB.out) | (with_reducible refine Kd.C_alloc ?_ _) | (with_reducible refine Kd.C_drewN ?_ _) | (with_reducible refine Kd.C_drew ?_))); (case side2 => exact HC1.out); rintro e w14 ⟨v128, rfl, ho0, hb⟩; refine ⟨_, rfl, ?_⟩; have n0_ := Aside0.mk (Kd.R_below (by (with_reducible repeat (first | apply Kd.R_alloc | apply Kd.R_drewN | apply Kd.R_drew)); exact HO_7.out) hb); have n1_ := Aside0.mk (Kd.R_elder' (by (with_reducible repeat (first | apply Kd.R_alloc | apply Kd.R_drewN | apply Kd.R_drew)); exact HO126.out) (Kd.R_base ho0) hb); have n2_ := Aside0.mk (Kd.R_lower (Kd.R_new' ho0 (Kd.R_lt (by (with_reducible repeat (first | apply Kd.R_alloc | apply Kd.R_drewN | apply Kd.R_drew)); exact HO126.out))) (below_size (by repeat (first | (with_reducible first | exact HB.out | apply below_alloc | apply pw_below_drewN | apply below_drew1) | exact HB.out)))); have n3_ := Aside0.mk (below_step (by repeat (first | (with_reducible first | exact HB.out | apply below_alloc | apply pw_below_drewN | apply below_drew1) | exact HB.out)) hb); clear HO_7; clear HO126; clear HB; have HO_7 := n0_; have HO126 := n1_; have HO129 := n2_; have HB := n3_; clear n0_ n1_ n2_ n3_; (try clear hb); (try clear hb2); (try clear hk); (try clear hi); (try clear ho0)))
        go_loopg [7, 10] kj3 (fun kq v7 v10 w' => ∃ (x7_2 : List Int) (x10_2 : Int), v10 = .int .i64 x10_2 ∧ Aside0 (spec_l4Mix.l0 kq a2 x7_2 t124 t127 x10_2 = some r) ∧ Aside0 (kq ≤ kj3) ∧ Aside0 (Kd.R (Kd.int .i64) 3 w' w.heap.size (fun _ => True) v7 x7_2) ∧ Aside0 (Kd.R Kd.bool 4 w' w.heap.size (fun k_ => some k_ ≠ (v128 : Value).ownBlock) v125 t124) ∧ Aside0 (Kd.R Kd.bool 4 w' w.heap.size (fun k_ => some k_ ≠ (v125 : Value).ownBlock) v128 t127) ∧ Aside0 (Below w.heap.size w w'))
        case atStart => exact ⟨(y119), (0), (by first | rfl | (simp; done) | (simp [*]; done)), H', ⟨Nat.le_refl _⟩, ⟨by (with_reducible repeat (first | apply Kd.R_alloc | apply Kd.R_drewN | apply Kd.R_drew)); exact HO_7.out⟩, ⟨by (with_reducible repeat (first | apply Kd.R_alloc | apply Kd.R_drewN | apply Kd.R_drew)); exact Kd.R_mono HO126.out (fun _ hk => hk.2)⟩, ⟨by (with_reducible repeat (first | apply Kd.R_alloc | apply Kd.R_drewN | apply Kd.R_drew)); exact Kd.R_mono HO129.out (fun _ hk => hk.2)⟩, ⟨by repeat (first | (with_reducible first | exact HB.out | apply below_alloc | apply pw_below_drewN | apply below_drew1) | exact HB.out)⟩⟩
        case round =>
          clear H'
          try clear c1
          try clear p2
          try clear c8
          try clear c10
          try clear c11
          try clear c13
          try clear c14
          try clear p2
          obtain ⟨x7_2, x10_2, rfl, HA, HK2, HO_7, HO_8, HO_9, HB⟩ := hrel
          cases gk with
          | zero => exact absurd HA.out (by simp [spec_l4Mix.l0])
          | succ k2 =>
            have H := HA.out
            clear HA
            simp only [spec_l4Mix.l0] at H
            by_cases c15 : x10_2 < 400
            · rw [if_pos c15] at H
              have c15b0 : decide (x10_2 < 400) = true := decide_eq_true c15
              clear c15
              by_cases c16 : a2 = 0
              · rw [if_pos c16] at H
                have c16b0 : (a2 == 0) = true := beq_iff_eq.mpr c16
                have c16b1 : (a2 != 0) = false := bne_eq_false_iff_eq.mpr c16
                clear c16
                by_cases c17 : 0 ≤ x10_2
                · rw [if_pos c17] at H
                  have c17b0 : decide (0 ≤ x10_2) = true := decide_eq_true c17
                  clear c17
                  by_cases c18 : x10_2 < (t124.length : Int)
                  · rw [if_pos c18] at H
                    have c18b0 : decide (x10_2 < (t124.length : Int)) = true := decide_eq_true c18
                    clear c18
                    obtain ⟨bq19, hbq19⟩ : ∃ b_ : Bool, b_ = (rdOf false t124 x10_2) := ⟨_, rfl⟩
                    replace H : (if bq19 = true then (if x10_2 < (t127.length : Int) then (if rdOf false t127 x10_2 = true then (if x7_2.length < 17592186044416 then (spec_l4Mix.l0 k2 a2 (x7_2 ++ [x10_2]) t124 t127 (wrap64 (x10_2 + 1))) else (none)) else (if a2 = 1 then (if x7_2.length < 17592186044416 then (spec_l4Mix.l0 k2 a2 (x7_2 ++ [x10_2]) t124 t127 (wrap64 (x10_2 + 1))) else (none)) else (if a2 = 2 then (if x7_2.length < 17592186044416 then (spec_l4Mix.l0 k2 a2 (x7_2 ++ [x10_2]) t124 t127 (wrap64 (x10_2 + 1))) else (none)) else (spec_l4Mix.l0 k2 a2 x7_2 t124 t127 (wrap64 (x10_2 + 1)))))) else (none)) else (if a2 = 1 then (if x10_2 < (t127.length : Int) then (if rdOf false t127 x10_2 = true then (if x7_2.length < 17592186044416 then (spec_l4Mix.l0 k2 a2 (x7_2 ++ [x10_2]) t124 t127 (wrap64 (x10_2 + 1))) else (none)) else (if a2 = 2 then (spec_l4Mix.l0 k2 a2 x7_2 t124 t127 (wrap64 (x10_2 + 1))) else (spec_l4Mix.l0 k2 a2 x7_2 t124 t127 (wrap64 (x10_2 + 1))))) else (none)) else (if a2 = 2 then (spec_l4Mix.l0 k2 a2 x7_2 t124 t127 (wrap64 (x10_2 + 1))) else (spec_l4Mix.l0 k2 a2 x7_2 t124 t127 (wrap64 (x10_2 + 1)))))) = some r := by rw [← hbq19] at H; exact H
                    have Nbq19 := Aside0.mk hbq19
                    clear hbq19
                    by_cases c20 : bq19 = true
                    · subst c20
                      have H1 : (if x10_2 < (t127.length : Int) then (if rdOf false t127 x10_2 = true then (if x7_2.length < 17592186044416 then (spec_l4Mix.l0 k2 a2 (x7_2 ++ [x10_2]) t124 t127 (wrap64 (x10_2 + 1))) else (none)) else (if a2 = 1 then (if x7_2.length < 17592186044416 then (spec_l4Mix.l0 k2 a2 (x7_2 ++ [x10_2]) t124 t127 (wrap64 (x10_2 + 1))) else (none)) else (if a2 = 2 then (if x7_2.length < 17592186044416 then (spec_l4Mix.l0 k2 a2 (x7_2 ++ [x10_2]) t124 t127 (wrap64 (x10_2 + 1))) else (none)) else (spec_l4Mix.l0 k2 a2 x7_2 t124 t127 (wrap64 (x10_2 + 1)))))) else (none)) = some r := by rw [if_pos rfl] at H; exact H
                      clear H
                      have H := H1
                      clear H1
                      by_cases c21 : x10_2 < (t127.length : Int)
                      · rw [if_pos c21] at H
                        have c21b0 : decide (x10_2 < (t127.length : Int)) = true := decide_eq_true c21
                        clear c21
                        obtain ⟨bq22, hbq22⟩ : ∃ b_ : Bool, b_ = (rdOf false t127 x10_2) := ⟨_, rfl⟩
                        replace H : (if bq22 = true then (if x7_2.length < 17592186044416 then (spec_l4Mix.l0 k2 a2 (x7_2 ++ [x10_2]) t124 t127 (wrap64 (x10_2 + 1))) else (none)) else (if a2 = 1 then (if x7_2.length < 17592186044416 then (spec_l4Mix.l0 k2 a2 (x7_2 ++ [x10_2]) t124 t127 (wrap64 (x10_2 + 1))) else (none)) else (if a2 = 2 then (if x7_2.length < 17592186044416 then (spec_l4Mix.l0 k2 a2 (x7_2 ++ [x10_2]) t124 t127 (wrap64 (x10_2 + 1))) else (none)) else (spec_l4Mix.l0 k2 a2 x7_2 t124 t127 (wrap64 (x10_2 + 1)))))) = some r := by rw [← hbq22] at H; exact H
                        have Nbq22 := Aside0.mk hbq22
                        clear hbq22
                        by_cases c23 : bq22 = true
                        · subst c23
                          have H1 : (if x7_2.length < 17592186044416 then (spec_l4Mix.l0 k2 a2 (x7_2 ++ [x10_2]) t124 t127 (wrap64 (x10_2 + 1))) else (none)) = some r := by rw [if_pos rfl] at H; exact H
                          clear H
                          have H := H1
                          clear H1
                          by_cases c24 : x7_2.length < 17592186044416
                          · rw [if_pos c24] at H
                            have LMc24 := Aside0.mk c24
                            clear c24
                            obtain ⟨y132, hy132⟩ : ∃ y_ : List Int, y_ = (x7_2 ++ [x10_2]) := ⟨_, rfl⟩
                            replace H : (spec_l4Mix.l0 k2 a2 y132 t124 t127 (wrap64 (x10_2 + 1))) = some r := by first | (rw [hy132]; with_reducible exact H) | (have H2_ := (Option.bind_some _ _).symm.trans H; rw [hy132]; with_reducible exact H2_) | (have H2_ := (Option.bind_some _ _).symm.trans H; with_reducible exact H2_) | with_reducible exact H | (rw [hy132]; exact H) | exact H
                            have Ny132 := Aside0.mk hy132
                            clear hy132
                            have H' := Aside0.mk H
                            clear H
                            obtain ⟨Ao25, co25, eo25⟩ := Kd.R_slice HO_8.out
                            subst eo25
                            have p130 : 0 ≤ (x10_2 : Int) := of_decide_eq_true (by first | (with_reducible assumption) | assumption)
                            have q130 : x10_2 < (t124.length : Int) := of_decide_eq_true (by first | (with_reducible assumption) | assumption)
                            obtain ⟨ad130, e130, hx130_0⟩ := Kd.at_bool (Kd.R_reads' HO_8.out).2.2 x10_2 p130 q130
                            (try rw [← Nbq19.out] at hx130_0)
                            (try rw [← Nbq22.out] at hx130_0)
                            cases e130
                            replace p130 := eq_true p130
                            replace q130 := eq_true q130
                            obtain ⟨Ao26, co26, eo26⟩ := Kd.R_slice HO_9.out
                            subst eo26
                            have p131 : 0 ≤ (x10_2 : Int) := of_decide_eq_true (by first | (with_reducible assumption) | assumption)
                            have q131 : x10_2 < (t127.length : Int) := of_decide_eq_true (by first | (with_reducible assumption) | assumption)
                            obtain ⟨ad131, e131, hx131_0⟩ := Kd.at_bool (Kd.R_reads' HO_9.out).2.2 x10_2 p131 q131
                            (try rw [← Nbq19.out] at hx131_0)
                            (try rw [← Nbq22.out] at hx131_0)
                            cases e131
                            replace p131 := eq_true p131
                            replace q131 := eq_true q131
                            go_wp2_with (first | ((with_reducible refine gate_builtin (b := .append) (xs := #[.tmp 76, .tmp 78]) rfl ?_); at_builtin; refine Kd.R_append (Kd.int .i64) (w0 := w) w.heap.size rfl (.tmp 76) (.tmp 78) 49 3 (.int .i64 0) 8 rfl Try.underlying49 info3 rfl (by decide) (by omega) u7 x7_2 x10_2 [.int .i64 x10_2] (fun _ => True) (fun _ => False) rfl rfl ?aP (fun _ hk => hk.elim) ?aF ?aO ?aB ?aS ?aL ?_; (case aP => exact rfl); (case aB => exact (by repeat (first | (with_reducible first | exact HB.out | apply below_alloc | apply pw_below_drewN | apply below_drew1) | exact HB.out))); (case aF => exact (fun _ _ => trivial)); (case aO => exact (by (with_reducible repeat (first | apply Kd.R_alloc | apply Kd.R_drewN | apply Kd.R_drew)); exact HO_7.out)); (case aS => exact (below_size (by repeat (first | (with_reducible first | exact HB.out | apply below_alloc | apply pw_below_drewN | apply below_drew1) | exact HB.out)))); (case aL => have := LMc24.out; omega); intro v133 w27 ho hb hg hat; rw [← Ny132.out] at ho; have n0_ := Aside0.mk (Kd.R_over' (by (with_reducible repeat (first | apply Kd.R_alloc | apply Kd.R_drewN | apply Kd.R_drew)); exact HO_8.out) (Kd.R_typed (by (with_reducible repeat (first | apply Kd.R_alloc | apply Kd.R_drewN | apply Kd.R_drew)); exact HO_7.out)) (by decide) hg); have n1_ := Aside0.mk (Kd.R_over' (by (with_reducible repeat (first | apply Kd.R_alloc | apply Kd.R_drewN | apply Kd.R_drew)); exact HO_9.out) (Kd.R_typed (by (with_reducible repeat (first | apply Kd.R_alloc | apply Kd.R_drewN | apply Kd.R_drew)); exact HO_7.out)) (by decide) hg); have n2_ := Aside0.mk (hb); have n3_ := Aside0.mk (ho); clear HO_8; clear HO_9; clear HB; clear HO_7; have HO_8 := n0_; have HO_9 := n1_; have HB := n2_; have HO134 := n3_; clear n0_ n1_ n2_ n3_; clear ho hb hg hat))
                            go_roundg k2
                            case measure => have := HJ3.out; have := HK2.out; omega
                            case rel => exact ⟨(y132), (wrap64 (x10_2 + 1)), (by first | rfl | (simp; done) | (simp [*]; done)), H', ⟨by have := HJ3.out; have := HK2.out; omega⟩, ⟨by (with_reducible repeat (first | apply Kd.R_alloc | apply Kd.R_drewN | apply Kd.R_drew)); exact HO134.out⟩, ⟨by (with_reducible repeat (first | apply Kd.R_alloc | apply Kd.R_drewN | apply Kd.R_drew)); exact HO_8.out⟩, ⟨by (with_reducible repeat (first | apply Kd.R_alloc | apply Kd.R_drewN | apply Kd.R_drew)); exact HO_9.out⟩, ⟨by repeat (first | (with_reducible first | exact HB.out | apply below_alloc | apply pw_below_drewN | apply below_drew1) | exact HB.out)⟩⟩
                          · rw [if_neg c24] at H
                            exact absurd H (by simp)
                        · replace c23 := Bool.eq_false_iff.mpr c23
                          subst c23
                          have H1 : (if a2 = 1 then (if x7_2.length < 17592186044416 then (spec_l4Mix.l0 k2 a2 (x7_2 ++ [x10_2]) t124 t127 (wrap64 (x10_2 + 1))) else (none)) else (if a2 = 2 then (if x7_2.length < 17592186044416 then (spec_l4Mix.l0 k2 a2 (x7_2 ++ [x10_2]) t124 t127 (wrap64 (x10_2 + 1))) else (none)) else (spec_l4Mix.l0 k2 a2 x7_2 t124 t127 (wrap64 (x10_2 + 1))))) = some r := by rw [if_neg (show ¬ (false = true) by decide)] at H; exact H
                          clear H
                          have H := H1
                          clear H1
                          by_cases c28 : a2 = 1
                          · rw [if_pos c28] at H
                            have c28b0 : (a2 == 1) = true := beq_iff_eq.mpr c28
                            have c28b1 : (a2 != 1) = false := bne_eq_false_iff_eq.mpr c28
                            clear c28
                            by_cases c29 : x7_2.length < 17592186044416
                            · rw [if_pos c29] at H
                              have LMc29 := Aside0.mk c29
                              clear c29
                              obtain ⟨y136, hy136⟩ : ∃ y_ : List Int, y_ = (x7_2 ++ [x10_2]) := ⟨_, rfl⟩
                              replace H : (spec_l4Mix.l0 k2 a2 y136 t124 t127 (wrap64 (x10_2 + 1))) = some r := by first | (rw [hy136]; with_reducible exact H) | (have H2_ := (Option.bind_some _ _).symm.trans H; rw [hy136]; with_reducible exact H2_) | (have H2_ := (Option.bind_some _ _).symm.trans H; with_reducible exact H2_) | with_reducible exact H | (rw [hy136]; exact H) | exact H
                              have Ny136 := Aside0.mk hy136
                              clear hy136
                              have H' := Aside0.mk H
                              clear H
                              obtain ⟨Ao30, co30, eo30⟩ := Kd.R_slice HO_8.out
                              subst eo30
                              have p130 : 0 ≤ (x10_2 : Int) := of_decide_eq_true (by first | (with_reducible assumption) | assumption)
                              have q130 : x10_2 < (t124.length : Int) := of_decide_eq_true (by first | (with_reducible assumption) | assumption)
                              obtain ⟨ad130, e130, hx130_0⟩ := Kd.at_bool (Kd.R_reads' HO_8.out).2.2 x10_2 p130 q130
                              (try rw [← Nbq19.out] at hx130_0)
                              (try rw [← Nbq22.out] at hx130_0)
                              cases e130
                              replace p130 := eq_true p130
                              replace q130 := eq_true q130
                              obtain ⟨Ao31, co31, eo31⟩ := Kd.R_slice HO_9.out
                              subst eo31
                              have p131 : 0 ≤ (x10_2 : Int) := of_decide_eq_true (by first | (with_reducible assumption) | assumption)
                              have q131 : x10_2 < (t127.length : Int) := of_decide_eq_true (by first | (with_reducible assumption) | assumption)
                              obtain ⟨ad131, e131, hx131_0⟩ := Kd.at_bool (Kd.R_reads' HO_9.out).2.2 x10_2 p131 q131
                              (try rw [← Nbq19.out] at hx131_0)
                              (try rw [← Nbq22.out] at hx131_0)
                              cases e131
                              replace p131 := eq_true p131
                              replace q131 := eq_true q131
                              have p135 : 0 ≤ (x10_2 : Int) := of_decide_eq_true (by first | (with_reducible assumption) | assumption)
                              have q135 : x10_2 < (t124.length : Int) := of_decide_eq_true (by first | (with_reducible assumption) | assumption)
                              obtain ⟨ad135, e135, hx135_0⟩ := Kd.at_bool (Kd.R_reads' HO_8.out).2.2 x10_2 p135 q135
                              (try rw [← Nbq19.out] at hx135_0)
                              (try rw [← Nbq22.out] at hx135_0)
                              obtain rfl : ad130 = ad135 := (by injection e135)
                              replace p135 := eq_true p135
                              replace q135 := eq_true q135
                              go_wp2_with (first | ((with_reducible refine gate_builtin (b := .append) (xs := #[.tmp 76, .tmp 78]) rfl ?_); at_builtin; refine Kd.R_append (Kd.int .i64) (w0 := w) w.heap.size rfl (.tmp 76) (.tmp 78) 49 3 (.int .i64 0) 8 rfl Try.underlying49 info3 rfl (by decide) (by omega) u7 x7_2 x10_2 [.int .i64 x10_2] (fun _ => True) (fun _ => False) rfl rfl ?aP (fun _ hk => hk.elim) ?aF ?aO ?aB ?aS ?aL ?_; (case aP => exact rfl); (case aB => exact (by repeat (first | (with_reducible first | exact HB.out | apply below_alloc | apply pw_below_drewN | apply below_drew1) | exact HB.out))); (case aF => exact (fun _ _ => trivial)); (case aO => exact (by (with_reducible repeat (first | apply Kd.R_alloc | apply Kd.R_drewN | apply Kd.R_drew)); exact HO_7.out)); (case aS => exact (below_size (by repeat (first | (with_reducible first | exact HB.out | apply below_alloc | apply pw_below_drewN | apply below_drew1) | exact HB.out)))); (case aL => have := LMc29.out; omega); intro v137 w32 ho hb hg hat; rw [← Ny136.out] at ho; have n0_ := Aside0.mk (Kd.R_over' (by (with_reducible repeat (first | apply Kd.R_alloc | apply Kd.R_drewN | apply Kd.R_drew)); exact HO_8.out) (Kd.R_typed (by (with_reducible repeat (first | apply Kd.R_alloc | apply Kd.R_drewN | apply Kd.R_drew)); exact HO_7.out)) (by decide) hg); have n1_ := Aside0.mk (Kd.R_over' (by (with_reducible repeat (first | apply Kd.R_alloc | apply Kd.R_drewN | apply Kd.R_drew)); exact HO_9.out) (Kd.R_typed (by (with_reducible repeat (first | apply Kd.R_alloc | apply Kd.R_drewN | apply Kd.R_drew)); exact HO_7.out)) (by decide) hg); have n2_ := Aside0.mk (hb); have n3_ := Aside0.mk (ho); clear HO_8; clear HO_9; clear HB; clear HO_7; have HO_8 := n0_; have HO_9 := n1_; have HB := n2_; have HO138 := n3_; clear n0_ n1_ n2_ n3_; clear ho hb hg hat))
                              go_roundg k2
                              case measure => have := HJ3.out; have := HK2.out; omega
                              case rel => exact ⟨(y136), (wrap64 (x10_2 + 1)), (by first | rfl | (simp; done) | (simp [*]; done)), H', ⟨by have := HJ3.out; have := HK2.out; omega⟩, ⟨by (with_reducible repeat (first | apply Kd.R_alloc | apply Kd.R_drewN | apply Kd.R_drew)); exact HO138.out⟩, ⟨by (with_reducible repeat (first | apply Kd.R_alloc | apply Kd.R_drewN | apply Kd.R_drew)); exact HO_8.out⟩, ⟨by (with_reducible repeat (first | apply Kd.R_alloc | apply Kd.R_drewN | apply Kd.R_drew)); exact HO_9.out⟩, ⟨by repeat (first | (with_reducible first | exact HB.out | apply below_alloc | apply pw_below_drewN | apply below_drew1) | exact HB.out)⟩⟩
                            · rw [if_neg c29] at H
                              exact absurd H (by simp)
                          · rw [if_neg c28] at H
                            have c28b0 : (a2 == 1) = false := beq_eq_false_iff_ne.mpr c28
                            have c28b1 : (a2 != 1) = true := bne_iff_ne.mpr c28
                            by_cases c33 : a2 = 2
                            · rw [if_pos c33] at H
                              have c33b0 : (a2 == 2) = true := beq_iff_eq.mpr c33
                              have c33b1 : (a2 != 2) = false := bne_eq_false_iff_eq.mpr c33
                              clear c33
                              by_cases c34 : x7_2.length < 17592186044416
                              · rw [if_pos c34] at H
                                have LMc34 := Aside0.mk c34
                                clear c34
                                obtain ⟨y141, hy141⟩ : ∃ y_ : List Int, y_ = (x7_2 ++ [x10_2]) := ⟨_, rfl⟩
                                replace H : (spec_l4Mix.l0 k2 a2 y141 t124 t127 (wrap64 (x10_2 + 1))) = some r := by first | (rw [hy141]; with_reducible exact H) | (have H2_ := (Option.bind_some _ _).symm.trans H; rw [hy141]; with_reducible exact H2_) | (have H2_ := (Option.bind_some _ _).symm.trans H; with_reducible exact H2_) | with_reducible exact H | (rw [hy141]; exact H) | exact H
                                have Ny141 := Aside0.mk hy141
                                clear hy141
                                have H' := Aside0.mk H
                                clear H
                                obtain ⟨Ao35, co35, eo35⟩ := Kd.R_slice HO_8.out
                                subst eo35
                                have p130 : 0 ≤ (x10_2 : Int) := of_decide_eq_true (by first | (with_reducible assumption) | assumption)
                                have q130 : x10_2 < (t124.length : Int) := of_decide_eq_true (by first | (with_reducible assumption) | assumption)
                                obtain ⟨ad130, e130, hx130_0⟩ := Kd.at_bool (Kd.R_reads' HO_8.out).2.2 x10_2 p130 q130
                                (try rw [← Nbq19.out] at hx130_0)
                                (try rw [← Nbq22.out] at hx130_0)
                                cases e130
                                replace p130 := eq_true p130
                                replace q130 := eq_true q130
                                obtain ⟨Ao36, co36, eo36⟩ := Kd.R_slice HO_9.out
                                subst eo36
                                have p131 : 0 ≤ (x10_2 : Int) := of_decide_eq_true (by first | (with_reducible assumption) | assumption)
                                have q131 : x10_2 < (t127.length : Int) := of_decide_eq_true (by first | (with_reducible assumption) | assumption)
                                obtain ⟨ad131, e131, hx131_0⟩ := Kd.at_bool (Kd.R_reads' HO_9.out).2.2 x10_2 p131 q131
                                (try rw [← Nbq19.out] at hx131_0)
                                (try rw [← Nbq22.out] at hx131_0)
                                cases e131
                                replace p131 := eq_true p131
                                replace q131 := eq_true q131
                                have p139 : 0 ≤ (x10_2 : Int) := of_decide_eq_true (by first | (with_reducible assumption) | assumption)
                                have q139 : x10_2 < (t124.length : Int) := of_decide_eq_true (by first | (with_reducible assumption) | assumption)
                                obtain ⟨ad139, e139, hx139_0⟩ := Kd.at_bool (Kd.R_reads' HO_8.out).2.2 x10_2 p139 q139
                                (try rw [← Nbq19.out] at hx139_0)
                                (try rw [← Nbq22.out] at hx139_0)
                                obtain rfl : ad130 = ad139 := (by injection e139)
                                replace p139 := eq_true p139
                                replace q139 := eq_true q139
                                have p140 : 0 ≤ (x10_2 : Int) := of_decide_eq_true (by first | (with_reducible assumption) | assumption)
                                have q140 : x10_2 < (t127.length : Int) := of_decide_eq_true (by first | (with_reducible assumption) | assumption)
                                obtain ⟨ad140, e140, hx140_0⟩ := Kd.at_bool (Kd.R_reads' HO_9.out).2.2 x10_2 p140 q140
                                (try rw [← Nbq19.out] at hx140_0)
                                (try rw [← Nbq22.out] at hx140_0)
                                obtain rfl : ad131 = ad140 := (by injection e140)
                                replace p140 := eq_true p140
                                replace q140 := eq_true q140
                                go_wp2_with (first | ((with_reducible refine gate_builtin (b := .append) (xs := #[.tmp 76, .tmp 78]) rfl ?_); at_builtin; refine Kd.R_append (Kd.int .i64) (w0 := w) w.heap.size rfl (.tmp 76) (.tmp 78) 49 3 (.int .i64 0) 8 rfl Try.underlying49 info3 rfl (by decide) (by omega) u7 x7_2 x10_2 [.int .i64 x10_2] (fun _ => True) (fun _ => False) rfl rfl ?aP (fun _ hk => hk.elim) ?aF ?aO ?aB ?aS ?aL ?_; (case aP => exact rfl); (case aB => exact (by repeat (first | (with_reducible first | exact HB.out | apply below_alloc | apply pw_below_drewN | apply below_drew1) | exact HB.out))); (case aF => exact (fun _ _ => trivial)); (case aO => exact (by (with_reducible repeat (first | apply Kd.R_alloc | apply Kd.R_drewN | apply Kd.R_drew)); exact HO_7.out)); (case aS => exact (below_size (by repeat (first | (with_reducible first | exact HB.out | apply below_alloc | apply pw_below_drewN | apply below_drew1) | exact HB.out)))); (case aL => have := LMc34.out; omega); intro v142 w37 ho hb hg hat; rw [← Ny141.out] at ho; have n0_ := Aside0.mk (Kd.R_over' (by (with_reducible repeat (first | apply Kd.R_alloc | apply Kd.R_drewN | apply Kd.R_drew)); exact HO_8.out) (Kd.R_typed (by (with_reducible repeat (first | apply Kd.R_alloc | apply Kd.R_drewN | apply Kd.R_drew)); exact HO_7.out)) (by decide) hg); have n1_ := Aside0.mk (Kd.R_over' (by (with_reducible repeat (first | apply Kd.R_alloc | apply Kd.R_drewN | apply Kd.R_drew)); exact HO_9.out) (Kd.R_typed (by (with_reducible repeat (first | apply Kd.R_alloc | apply Kd.R_drewN | apply Kd.R_drew)); exact HO_7.out)) (by decide) hg); have n2_ := Aside0.mk (hb); have n3_ := Aside0.mk (ho); clear HO_8; clear HO_9; clear HB; clear HO_7; have HO_8 := n0_; have HO_9 := n1_; have HB := n2_; have HO143 := n3_; clear n0_ n1_ n2_ n3_; clear ho hb hg hat))
                                go_roundg k2
                                case measure => have := HJ3.out; have := HK2.out; omega
                                case rel => exact ⟨(y141), (wrap64 (x10_2 + 1)), (by first | rfl | (simp; done) | (simp [*]; done)), H', ⟨by have := HJ3.out; have := HK2.out; omega⟩, ⟨by (with_reducible repeat (first | apply Kd.R_alloc | apply Kd.R_drewN | apply Kd.R_drew)); exact HO143.out⟩, ⟨by (with_reducible repeat (first | apply Kd.R_alloc | apply Kd.R_drewN | apply Kd.R_drew)); exact HO_8.out⟩, ⟨by (with_reducible repeat (first | apply Kd.R_alloc | apply Kd.R_drewN | apply Kd.R_drew)); exact HO_9.out⟩, ⟨by repeat (first | (with_reducible first | exact HB.out | apply below_alloc | apply pw_below_drewN | apply below_drew1) | exact HB.out)⟩⟩
                              · rw [if_neg c34] at H
                                exact absurd H (by simp)
                            · rw [if_neg c33] at H
                              have c33b0 : (a2 == 2) = false := beq_eq_false_iff_ne.mpr c33
                              have c33b1 : (a2 != 2) = true := bne_iff_ne.mpr c33
                              have H' := Aside0.mk H
                              clear H
                              obtain ⟨Ao38, co38, eo38⟩ := Kd.R_slice HO_8.out
                              subst eo38
                              have p130 : 0 ≤ (x10_2 : Int) := of_decide_eq_true (by first | (with_reducible assumption) | assumption)
                              have q130 : x10_2 < (t124.length : Int) := of_decide_eq_true (by first | (with_reducible assumption) | assumption)
                              obtain ⟨ad130, e130, hx130_0⟩ := Kd.at_bool (Kd.R_reads' HO_8.out).2.2 x10_2 p130 q130
                              (try rw [← Nbq19.out] at hx130_0)
                              (try rw [← Nbq22.out] at hx130_0)
                              cases e130
                              replace p130 := eq_true p130
                              replace q130 := eq_true q130
                              obtain ⟨Ao39, co39, eo39⟩ := Kd.R_slice HO_9.out
                              subst eo39
                              have p131 : 0 ≤ (x10_2 : Int) := of_decide_eq_true (by first | (with_reducible assumption) | assumption)
                              have q131 : x10_2 < (t127.length : Int) := of_decide_eq_true (by first | (with_reducible assumption) | assumption)
                              obtain ⟨ad131, e131, hx131_0⟩ := Kd.at_bool (Kd.R_reads' HO_9.out).2.2 x10_2 p131 q131
                              (try rw [← Nbq19.out] at hx131_0)
                              (try rw [← Nbq22.out] at hx131_0)
                              cases e131
                              replace p131 := eq_true p131
                              replace q131 := eq_true q131
                              go_wp2
                              go_roundg k2
                              case measure => have := HJ3.out; have := HK2.out; omega
                              case rel => exact ⟨(x7_2), (wrap64 (x10_2 + 1)), (by first | rfl | (simp; done) | (simp [*]; done)), H', ⟨by have := HJ3.out; have := HK2.out; omega⟩, ⟨by (with_reducible repeat (first | apply Kd.R_alloc | apply Kd.R_drewN | apply Kd.R_drew)); exact HO_7.out⟩, ⟨by (with_reducible repeat (first | apply Kd.R_alloc | apply Kd.R_drewN | apply Kd.R_drew)); exact HO_8.out⟩, ⟨by (with_reducible repeat (first | apply Kd.R_alloc | apply Kd.R_drewN | apply Kd.R_drew)); exact HO_9.out⟩, ⟨by repeat (first | (with_reducible first | exact HB.out | apply below_alloc | apply pw_below_drewN | apply below_drew1) | exact HB.out)⟩⟩
                      · rw [if_neg c21] at H
                        exact absurd H (by simp)
                    · replace c20 := Bool.eq_false_iff.mpr c20
                      subst c20
                      have H1 : (if a2 = 1 then (if x10_2 < (t127.length : Int) then (if rdOf false t127 x10_2 = true then (if x7_2.length < 17592186044416 then (spec_l4Mix.l0 k2 a2 (x7_2 ++ [x10_2]) t124 t127 (wrap64 (x10_2 + 1))) else (none)) else (if a2 = 2 then (spec_l4Mix.l0 k2 a2 x7_2 t124 t127 (wrap64 (x10_2 + 1))) else (spec_l4Mix.l0 k2 a2 x7_2 t124 t127 (wrap64 (x10_2 + 1))))) else (none)) else (if a2 = 2 then (spec_l4Mix.l0 k2 a2 x7_2 t124 t127 (wrap64 (x10_2 + 1))) else (spec_l4Mix.l0 k2 a2 x7_2 t124 t127 (wrap64 (x10_2 + 1))))) = some r := by rw [if_neg (show ¬ (false = true) by decide)] at H; exact H
                      clear H
                      have H := H1
                      clear H1
                      by_cases c40 : a2 = 1
                      · rw [if_pos c40] at H
                        have c40b0 : (a2 == 1) = true := beq_iff_eq.mpr c40
                        have c40b1 : (a2 != 1) = false := bne_eq_false_iff_eq.mpr c40
                        clear c40
                        by_cases c41 : x10_2 < (t127.length : Int)
                        · rw [if_pos c41] at H
                          have c41b0 : decide (x10_2 < (t127.length : Int)) = true := decide_eq_true c41
                          clear c41
                          obtain ⟨bq42, hbq42⟩ : ∃ b_ : Bool, b_ = (rdOf false t127 x10_2) := ⟨_, rfl⟩
                          replace H : (if bq42 = true then (if x7_2.length < 17592186044416 then (spec_l4Mix.l0 k2 a2 (x7_2 ++ [x10_2]) t124 t127 (wrap64 (x10_2 + 1))) else (none)) else (if a2 = 2 then (spec_l4Mix.l0 k2 a2 x7_2 t124 t127 (wrap64 (x10_2 + 1))) else (spec_l4Mix.l0 k2 a2 x7_2 t124 t127 (wrap64 (x10_2 + 1))))) = some r := by rw [← hbq42] at H; exact H
                          have Nbq42 := Aside0.mk hbq42
                          clear hbq42
                          by_cases c43 : bq42 = true
                          · subst c43
                            have H1 : (if x7_2.length < 17592186044416 then (spec_l4Mix.l0 k2 a2 (x7_2 ++ [x10_2]) t124 t127 (wrap64 (x10_2 + 1))) else (none)) = some r := by rw [if_pos rfl] at H; exact H
                            clear H
                            have H := H1
                            clear H1
                            by_cases c44 : x7_2.length < 17592186044416
                            · rw [if_pos c44] at H
                              have LMc44 := Aside0.mk c44
                              clear c44
                              obtain ⟨y146, hy146⟩ : ∃ y_ : List Int, y_ = (x7_2 ++ [x10_2]) := ⟨_, rfl⟩
                              replace H : (spec_l4Mix.l0 k2 a2 y146 t124 t127 (wrap64 (x10_2 + 1))) = some r := by first | (rw [hy146]; with_reducible exact H) | (have H2_ := (Option.bind_some _ _).symm.trans H; rw [hy146]; with_reducible exact H2_) | (have H2_ := (Option.bind_some _ _).symm.trans H; with_reducible exact H2_) | with_reducible exact H | (rw [hy146]; exact H) | exact H
                              have Ny146 := Aside0.mk hy146
                              clear hy146
                              have H' := Aside0.mk H
                              clear H
                              obtain ⟨Ao45, co45, eo45⟩ := Kd.R_slice HO_8.out
                              subst eo45
                              have p130 : 0 ≤ (x10_2 : Int) := of_decide_eq_true (by first | (with_reducible assumption) | assumption)
                              have q130 : x10_2 < (t124.length : Int) := of_decide_eq_true (by first | (with_reducible assumption) | assumption)
                              obtain ⟨ad130, e130, hx130_0⟩ := Kd.at_bool (Kd.R_reads' HO_8.out).2.2 x10_2 p130 q130
                              (try rw [← Nbq19.out] at hx130_0)
                              (try rw [← Nbq42.out] at hx130_0)
                              cases e130
                              replace p130 := eq_true p130
                              replace q130 := eq_true q130
                              have p144 : 0 ≤ (x10_2 : Int) := of_decide_eq_true (by first | (with_reducible assumption) | assumption)
                              have q144 : x10_2 < (t124.length : Int) := of_decide_eq_true (by first | (with_reducible assumption) | assumption)
                              obtain ⟨ad144, e144, hx144_0⟩ := Kd.at_bool (Kd.R_reads' HO_8.out).2.2 x10_2 p144 q144
                              (try rw [← Nbq19.out] at hx144_0)
                              (try rw [← Nbq42.out] at hx144_0)
                              obtain rfl : ad130 = ad144 := (by injection e144)
                              replace p144 := eq_true p144
                              replace q144 := eq_true q144
                              obtain ⟨Ao46, co46, eo46⟩ := Kd.R_slice HO_9.out
                              subst eo46
                              have p145 : 0 ≤ (x10_2 : Int) := of_decide_eq_true (by first | (with_reducible assumption) | assumption)
                              have q145 : x10_2 < (t127.length : Int) := of_decide_eq_true (by first | (with_reducible assumption) | assumption)
                              obtain ⟨ad145, e145, hx145_0⟩ := Kd.at_bool (Kd.R_reads' HO_9.out).2.2 x10_2 p145 q145
                              (try rw [← Nbq19.out] at hx145_0)
                              (try rw [← Nbq42.out] at hx145_0)
                              cases e145
                              replace p145 := eq_true p145
                              replace q145 := eq_true q145
                              go_wp2_with (first | ((with_reducible refine gate_builtin (b := .append) (xs := #[.tmp 76, .tmp 78]) rfl ?_); at_builtin; refine Kd.R_append (Kd.int .i64) (w0 := w) w.heap.size rfl (.tmp 76) (.tmp 78) 49 3 (.int .i64 0) 8 rfl Try.underlying49 info3 rfl (by decide) (by omega) u7 x7_2 x10_2 [.int .i64 x10_2] (fun _ => True) (fun _ => False) rfl rfl ?aP (fun _ hk => hk.elim) ?aF ?aO ?aB ?aS ?aL ?_; (case aP => exact rfl); (case aB => exact (by repeat (first | (with_reducible first | exact HB.out | apply below_alloc | apply pw_below_drewN | apply below_drew1) | exact HB.out))); (case aF => exact (fun _ _ => trivial)); (case aO => exact (by (with_reducible repeat (first | apply Kd.R_alloc | apply Kd.R_drewN | apply Kd.R_drew)); exact HO_7.out)); (case aS => exact (below_size (by repeat (first | (with_reducible first | exact HB.out | apply below_alloc | apply pw_below_drewN | apply below_drew1) | exact HB.out)))); (case aL => have := LMc44.out; omega); intro v147 w47 ho hb hg hat; rw [← Ny146.out] at ho; have n0_ := Aside0.mk (Kd.R_over' (by (with_reducible repeat (first | apply Kd.R_alloc | apply Kd.R_drewN | apply Kd.R_drew)); exact HO_8.out) (Kd.R_typed (by (with_reducible repeat (first | apply Kd.R_alloc | apply Kd.R_drewN | apply Kd.R_drew)); exact HO_7.out)) (by decide) hg); have n1_ := Aside0.mk (Kd.R_over' (by (with_reducible repeat (first | apply Kd.R_alloc | apply Kd.R_drewN | apply Kd.R_drew)); exact HO_9.out) (Kd.R_typed (by (with_reducible repeat (first | apply Kd.R_alloc | apply Kd.R_drewN | apply Kd.R_drew)); exact HO_7.out)) (by decide) hg); have n2_ := Aside0.mk (hb); have n3_ := Aside0.mk (ho); clear HO_8; clear HO_9; clear HB; clear HO_7; have HO_8 := n0_; have HO_9 := n1_; have HB := n2_; have HO148 := n3_; clear n0_ n1_ n2_ n3_; clear ho hb hg hat))
                              go_roundg k2
                              case measure => have := HJ3.out; have := HK2.out; omega
                              case rel => exact ⟨(y146), (wrap64 (x10_2 + 1)), (by first | rfl | (simp; done) | (simp [*]; done)), H', ⟨by have := HJ3.out; have := HK2.out; omega⟩, ⟨by (with_reducible repeat (first | apply Kd.R_alloc | apply Kd.R_drewN | apply Kd.R_drew)); exact HO148.out⟩, ⟨by (with_reducible repeat (first | apply Kd.R_alloc | apply Kd.R_drewN | apply Kd.R_drew)); exact HO_8.out⟩, ⟨by (with_reducible repeat (first | apply Kd.R_alloc | apply Kd.R_drewN | apply Kd.R_drew)); exact HO_9.out⟩, ⟨by repeat (first | (with_reducible first | exact HB.out | apply below_alloc | apply pw_below_drewN | apply below_drew1) | exact HB.out)⟩⟩
                            · rw [if_neg c44] at H
                              exact absurd H (by simp)
                          · replace c43 := Bool.eq_false_iff.mpr c43
                            subst c43
                            have H1 : (if a2 = 2 then (spec_l4Mix.l0 k2 a2 x7_2 t124 t127 (wrap64 (x10_2 + 1))) else (spec_l4Mix.l0 k2 a2 x7_2 t124 t127 (wrap64 (x10_2 + 1)))) = some r := by rw [if_neg (show ¬ (false = true) by decide)] at H; exact H
                            clear H
                            have H := H1
                            clear H1
                            by_cases c48 : a2 = 2
                            · rw [if_pos c48] at H
                              have c48b0 : (a2 == 2) = true := beq_iff_eq.mpr c48
                              have c48b1 : (a2 != 2) = false := bne_eq_false_iff_eq.mpr c48
                              clear c48
                              have H' := Aside0.mk H
                              clear H
                              obtain ⟨Ao49, co49, eo49⟩ := Kd.R_slice HO_8.out
                              subst eo49
                              have p130 : 0 ≤ (x10_2 : Int) := of_decide_eq_true (by first | (with_reducible assumption) | assumption)
                              have q130 : x10_2 < (t124.length : Int) := of_decide_eq_true (by first | (with_reducible assumption) | assumption)
                              obtain ⟨ad130, e130, hx130_0⟩ := Kd.at_bool (Kd.R_reads' HO_8.out).2.2 x10_2 p130 q130
                              (try rw [← Nbq19.out] at hx130_0)
                              (try rw [← Nbq42.out] at hx130_0)
                              cases e130
                              replace p130 := eq_true p130
                              replace q130 := eq_true q130
                              have p144 : 0 ≤ (x10_2 : Int) := of_decide_eq_true (by first | (with_reducible assumption) | assumption)
                              have q144 : x10_2 < (t124.length : Int) := of_decide_eq_true (by first | (with_reducible assumption) | assumption)
                              obtain ⟨ad144, e144, hx144_0⟩ := Kd.at_bool (Kd.R_reads' HO_8.out).2.2 x10_2 p144 q144
                              (try rw [← Nbq19.out] at hx144_0)
                              (try rw [← Nbq42.out] at hx144_0)
                              obtain rfl : ad130 = ad144 := (by injection e144)
                              replace p144 := eq_true p144
                              replace q144 := eq_true q144
                              obtain ⟨Ao50, co50, eo50⟩ := Kd.R_slice HO_9.out
                              subst eo50
                              have p145 : 0 ≤ (x10_2 : Int) := of_decide_eq_true (by first | (with_reducible assumption) | assumption)
                              have q145 : x10_2 < (t127.length : Int) := of_decide_eq_true (by first | (with_reducible assumption) | assumption)
                              obtain ⟨ad145, e145, hx145_0⟩ := Kd.at_bool (Kd.R_reads' HO_9.out).2.2 x10_2 p145 q145
                              (try rw [← Nbq19.out] at hx145_0)
                              (try rw [← Nbq42.out] at hx145_0)
                              cases e145
                              replace p145 := eq_true p145
                              replace q145 := eq_true q145
                              have p149 : 0 ≤ (x10_2 : Int) := of_decide_eq_true (by first | (with_reducible assumption) | assumption)
                              have q149 : x10_2 < (t124.length : Int) := of_decide_eq_true (by first | (with_reducible assumption) | assumption)
                              obtain ⟨ad149, e149, hx149_0⟩ := Kd.at_bool (Kd.R_reads' HO_8.out).2.2 x10_2 p149 q149
                              (try rw [← Nbq19.out] at hx149_0)
                              (try rw [← Nbq42.out] at hx149_0)
                              obtain rfl : ad130 = ad149 := (by injection e149)
                              replace p149 := eq_true p149
                              replace q149 := eq_true q149
                              go_wp2
                              go_roundg k2
                              case measure => have := HJ3.out; have := HK2.out; omega
                              case rel => exact ⟨(x7_2), (wrap64 (x10_2 + 1)), (by first | rfl | (simp; done) | (simp [*]; done)), H', ⟨by have := HJ3.out; have := HK2.out; omega⟩, ⟨by (with_reducible repeat (first | apply Kd.R_alloc | apply Kd.R_drewN | apply Kd.R_drew)); exact HO_7.out⟩, ⟨by (with_reducible repeat (first | apply Kd.R_alloc | apply Kd.R_drewN | apply Kd.R_drew)); exact HO_8.out⟩, ⟨by (with_reducible repeat (first | apply Kd.R_alloc | apply Kd.R_drewN | apply Kd.R_drew)); exact HO_9.out⟩, ⟨by repeat (first | (with_reducible first | exact HB.out | apply below_alloc | apply pw_below_drewN | apply below_drew1) | exact HB.out)⟩⟩
                            · rw [if_neg c48] at H
                              have c48b0 : (a2 == 2) = false := beq_eq_false_iff_ne.mpr c48
                              have c48b1 : (a2 != 2) = true := bne_iff_ne.mpr c48
                              have H' := Aside0.mk H
                              clear H
                              obtain ⟨Ao51, co51, eo51⟩ := Kd.R_slice HO_8.out
                              subst eo51
                              have p130 : 0 ≤ (x10_2 : Int) := of_decide_eq_true (by first | (with_reducible assumption) | assumption)
                              have q130 : x10_2 < (t124.length : Int) := of_decide_eq_true (by first | (with_reducible assumption) | assumption)
                              obtain ⟨ad130, e130, hx130_0⟩ := Kd.at_bool (Kd.R_reads' HO_8.out).2.2 x10_2 p130 q130
                              (try rw [← Nbq19.out] at hx130_0)
                              (try rw [← Nbq42.out] at hx130_0)
                              cases e130
                              replace p130 := eq_true p130
                              replace q130 := eq_true q130
                              have p144 : 0 ≤ (x10_2 : Int) := of_decide_eq_true (by first | (with_reducible assumption) | assumption)
                              have q144 : x10_2 < (t124.length : Int) := of_decide_eq_true (by first | (with_reducible assumption) | assumption)
                              obtain ⟨ad144, e144, hx144_0⟩ := Kd.at_bool (Kd.R_reads' HO_8.out).2.2 x10_2 p144 q144
                              (try rw [← Nbq19.out] at hx144_0)
                              (try rw [← Nbq42.out] at hx144_0)
                              obtain rfl : ad130 = ad144 := (by injection e144)
                              replace p144 := eq_true p144
                              replace q144 := eq_true q144
                              obtain ⟨Ao52, co52, eo52⟩ := Kd.R_slice HO_9.out
                              subst eo52
                              have p145 : 0 ≤ (x10_2 : Int) := of_decide_eq_true (by first | (with_reducible assumption) | assumption)
                              have q145 : x10_2 < (t127.length : Int) := of_decide_eq_true (by first | (with_reducible assumption) | assumption)
                              obtain ⟨ad145, e145, hx145_0⟩ := Kd.at_bool (Kd.R_reads' HO_9.out).2.2 x10_2 p145 q145
                              (try rw [← Nbq19.out] at hx145_0)
                              (try rw [← Nbq42.out] at hx145_0)
                              cases e145
                              replace p145 := eq_true p145
                              replace q145 := eq_true q145
                              go_wp2
                              go_roundg k2
                              case measure => have := HJ3.out; have := HK2.out; omega
                              case rel => exact ⟨(x7_2), (wrap64 (x10_2 + 1)), (by first | rfl | (simp; done) | (simp [*]; done)), H', ⟨by have := HJ3.out; have := HK2.out; omega⟩, ⟨by (with_reducible repeat (first | apply Kd.R_alloc | apply Kd.R_drewN | apply Kd.R_drew)); exact HO_7.out⟩, ⟨by (with_reducible repeat (first | apply Kd.R_alloc | apply Kd.R_drewN | apply Kd.R_drew)); exact HO_8.out⟩, ⟨by (with_reducible repeat (first | apply Kd.R_alloc | apply Kd.R_drewN | apply Kd.R_drew)); exact HO_9.out⟩, ⟨by repeat (first | (with_reducible first | exact HB.out | apply below_alloc | apply pw_below_drewN | apply below_drew1) | exact HB.out)⟩⟩
                        · rw [if_neg c41] at H
                          exact absurd H (by simp)
                      · rw [if_neg c40] at H
                        have c40b0 : (a2 == 1) = false := beq_eq_false_iff_ne.mpr c40
                        have c40b1 : (a2 != 1) = true := bne_iff_ne.mpr c40
                        by_cases c53 : a2 = 2
                        · rw [if_pos c53] at H
                          have c53b0 : (a2 == 2) = true := beq_iff_eq.mpr c53
                          have c53b1 : (a2 != 2) = false := bne_eq_false_iff_eq.mpr c53
                          clear c53
                          have H' := Aside0.mk H
                          clear H
                          obtain ⟨Ao54, co54, eo54⟩ := Kd.R_slice HO_8.out
                          subst eo54
                          have p130 : 0 ≤ (x10_2 : Int) := of_decide_eq_true (by first | (with_reducible assumption) | assumption)
                          have q130 : x10_2 < (t124.length : Int) := of_decide_eq_true (by first | (with_reducible assumption) | assumption)
                          obtain ⟨ad130, e130, hx130_0⟩ := Kd.at_bool (Kd.R_reads' HO_8.out).2.2 x10_2 p130 q130
                          (try rw [← Nbq19.out] at hx130_0)
                          cases e130
                          replace p130 := eq_true p130
                          replace q130 := eq_true q130
                          have p150 : 0 ≤ (x10_2 : Int) := of_decide_eq_true (by first | (with_reducible assumption) | assumption)
                          have q150 : x10_2 < (t124.length : Int) := of_decide_eq_true (by first | (with_reducible assumption) | assumption)
                          obtain ⟨ad150, e150, hx150_0⟩ := Kd.at_bool (Kd.R_reads' HO_8.out).2.2 x10_2 p150 q150
                          (try rw [← Nbq19.out] at hx150_0)
                          obtain rfl : ad130 = ad150 := (by injection e150)
                          replace p150 := eq_true p150
                          replace q150 := eq_true q150
                          go_wp2
                          go_roundg k2
                          case measure => have := HJ3.out; have := HK2.out; omega
                          case rel => exact ⟨(x7_2), (wrap64 (x10_2 + 1)), (by first | rfl | (simp; done) | (simp [*]; done)), H', ⟨by have := HJ3.out; have := HK2.out; omega⟩, ⟨by (with_reducible repeat (first | apply Kd.R_alloc | apply Kd.R_drewN | apply Kd.R_drew)); exact HO_7.out⟩, ⟨by (with_reducible repeat (first | apply Kd.R_alloc | apply Kd.R_drewN | apply Kd.R_drew)); exact HO_8.out⟩, ⟨by (with_reducible repeat (first | apply Kd.R_alloc | apply Kd.R_drewN | apply Kd.R_drew)); exact HO_9.out⟩, ⟨by repeat (first | (with_reducible first | exact HB.out | apply below_alloc | apply pw_below_drewN | apply below_drew1) | exact HB.out)⟩⟩
                        · rw [if_neg c53] at H
                          have c53b0 : (a2 == 2) = false := beq_eq_false_iff_ne.mpr c53
                          have c53b1 : (a2 != 2) = true := bne_iff_ne.mpr c53
                          have H' := Aside0.mk H
                          clear H
                          obtain ⟨Ao55, co55, eo55⟩ := Kd.R_slice HO_8.out
                          subst eo55
                          have p130 : 0 ≤ (x10_2 : Int) := of_decide_eq_true (by first | (with_reducible assumption) | assumption)
                          have q130 : x10_2 < (t124.length : Int) := of_decide_eq_true (by first | (with_reducible assumption) | assumption)
                          obtain ⟨ad130, e130, hx130_0⟩ := Kd.at_bool (Kd.R_reads' HO_8.out).2.2 x10_2 p130 q130
                          (try rw [← Nbq19.out] at hx130_0)
                          cases e130
                          replace p130 := eq_true p130
                          replace q130 := eq_true q130
                          go_wp2
                          go_roundg k2
                          case measure => have := HJ3.out; have := HK2.out; omega
                          case rel => exact ⟨(x7_2), (wrap64 (x10_2 + 1)), (by first | rfl | (simp; done) | (simp [*]; done)), H', ⟨by have := HJ3.out; have := HK2.out; omega⟩, ⟨by (with_reducible repeat (first | apply Kd.R_alloc | apply Kd.R_drewN | apply Kd.R_drew)); exact HO_7.out⟩, ⟨by (with_reducible repeat (first | apply Kd.R_alloc | apply Kd.R_drewN | apply Kd.R_drew)); exact HO_8.out⟩, ⟨by (with_reducible repeat (first | apply Kd.R_alloc | apply Kd.R_drewN | apply Kd.R_drew)); exact HO_9.out⟩, ⟨by repeat (first | (with_reducible first | exact HB.out | apply below_alloc | apply pw_below_drewN | apply below_drew1) | exact HB.out)⟩⟩
                  · rw [if_neg c18] at H
                    exact absurd H (by simp)
                · rw [if_neg c17] at H
                  exact absurd H (by simp)
              · rw [if_neg c16] at H
                have c16b0 : (a2 == 0) = false := beq_eq_false_iff_ne.mpr c16
                have c16b1 : (a2 != 0) = true := bne_iff_ne.mpr c16
                by_cases c56 : a2 = 1
                · rw [if_pos c56] at H
                  have c56b0 : (a2 == 1) = true := beq_iff_eq.mpr c56
                  have c56b1 : (a2 != 1) = false := bne_eq_false_iff_eq.mpr c56
                  clear c56
                  by_cases c57 : 0 ≤ x10_2
                  · rw [if_pos c57] at H
                    have c57b0 : decide (0 ≤ x10_2) = true := decide_eq_true c57
                    clear c57
                    by_cases c58 : x10_2 < (t124.length : Int)
                    · rw [if_pos c58] at H
                      have c58b0 : decide (x10_2 < (t124.length : Int)) = true := decide_eq_true c58
                      clear c58
                      obtain ⟨bq59, hbq59⟩ : ∃ b_ : Bool, b_ = (rdOf false t124 x10_2) := ⟨_, rfl⟩
                      replace H : (if bq59 = true then (if x7_2.length < 17592186044416 then (spec_l4Mix.l0 k2 a2 (x7_2 ++ [x10_2]) t124 t127 (wrap64 (x10_2 + 1))) else (none)) else (if x10_2 < (t127.length : Int) then (if rdOf false t127 x10_2 = true then (if x7_2.length < 17592186044416 then (spec_l4Mix.l0 k2 a2 (x7_2 ++ [x10_2]) t124 t127 (wrap64 (x10_2 + 1))) else (none)) else (if a2 = 2 then (spec_l4Mix.l0 k2 a2 x7_2 t124 t127 (wrap64 (x10_2 + 1))) else (spec_l4Mix.l0 k2 a2 x7_2 t124 t127 (wrap64 (x10_2 + 1))))) else (none))) = some r := by rw [← hbq59] at H; exact H
                      have Nbq59 := Aside0.mk hbq59
                      clear hbq59
                      by_cases c60 : bq59 = true
                      · subst c60
                        have H1 : (if x7_2.length < 17592186044416 then (spec_l4Mix.l0 k2 a2 (x7_2 ++ [x10_2]) t124 t127 (wrap64 (x10_2 + 1))) else (none)) = some r := by rw [if_pos rfl] at H; exact H
                        clear H
                        have H := H1
                        clear H1
                        by_cases c61 : x7_2.length < 17592186044416
                        · rw [if_pos c61] at H
                          have LMc61 := Aside0.mk c61
                          clear c61
                          obtain ⟨y152, hy152⟩ : ∃ y_ : List Int, y_ = (x7_2 ++ [x10_2]) := ⟨_, rfl⟩
                          replace H : (spec_l4Mix.l0 k2 a2 y152 t124 t127 (wrap64 (x10_2 + 1))) = some r := by first | (rw [hy152]; with_reducible exact H) | (have H2_ := (Option.bind_some _ _).symm.trans H; rw [hy152]; with_reducible exact H2_) | (have H2_ := (Option.bind_some _ _).symm.trans H; with_reducible exact H2_) | with_reducible exact H | (rw [hy152]; exact H) | exact H
                          have Ny152 := Aside0.mk hy152
                          clear hy152
                          have H' := Aside0.mk H
                          clear H
                          obtain ⟨Ao62, co62, eo62⟩ := Kd.R_slice HO_8.out
                          subst eo62
                          have p151 : 0 ≤ (x10_2 : Int) := of_decide_eq_true (by first | (with_reducible assumption) | assumption)
                          have q151 : x10_2 < (t124.length : Int) := of_decide_eq_true (by first | (with_reducible assumption) | assumption)
                          obtain ⟨ad151, e151, hx151_0⟩ := Kd.at_bool (Kd.R_reads' HO_8.out).2.2 x10_2 p151 q151
                          (try rw [← Nbq59.out] at hx151_0)
                          cases e151
                          replace p151 := eq_true p151
                          replace q151 := eq_true q151
                          go_wp2_with (first | ((with_reducible refine gate_builtin (b := .append) (xs := #[.tmp 76, .tmp 78]) rfl ?_); at_builtin; refine Kd.R_append (Kd.int .i64) (w0 := w) w.heap.size rfl (.tmp 76) (.tmp 78) 49 3 (.int .i64 0) 8 rfl Try.underlying49 info3 rfl (by decide) (by omega) u7 x7_2 x10_2 [.int .i64 x10_2] (fun _ => True) (fun _ => False) rfl rfl ?aP (fun _ hk => hk.elim) ?aF ?aO ?aB ?aS ?aL ?_; (case aP => exact rfl); (case aB => exact (by repeat (first | (with_reducible first | exact HB.out | apply below_alloc | apply pw_below_drewN | apply below_drew1) | exact HB.out))); (case aF => exact (fun _ _ => trivial)); (case aO => exact (by (with_reducible repeat (first | apply Kd.R_alloc | apply Kd.R_drewN | apply Kd.R_drew)); exact HO_7.out)); (case aS => exact (below_size (by repeat (first | (with_reducible first | exact HB.out | apply below_alloc | apply pw_below_drewN | apply below_drew1) | exact HB.out)))); (case aL => have := LMc61.out; omega); intro v153 w63 ho hb hg hat; rw [← Ny152.out] at ho; have n0_ := Aside0.mk (Kd.R_over' (by (with_reducible repeat (first | apply Kd.R_alloc | apply Kd.R_drewN | apply Kd.R_drew)); exact HO_8.out) (Kd.R_typed (by (with_reducible repeat (first | apply Kd.R_alloc | apply Kd.R_drewN | apply Kd.R_drew)); exact HO_7.out)) (by decide) hg); have n1_ := Aside0.mk (Kd.R_over' (by (with_reducible repeat (first | apply Kd.R_alloc | apply Kd.R_drewN | apply Kd.R_drew)); exact HO_9.out) (Kd.R_typed (by (with_reducible repeat (first | apply Kd.R_alloc | apply Kd.R_drewN | apply Kd.R_drew)); exact HO_7.out)) (by decide) hg); have n2_ := Aside0.mk (hb); have n3_ := Aside0.mk (ho); clear HO_8; clear HO_9; clear HB; clear HO_7; have HO_8 := n0_; have HO_9 := n1_; have HB := n2_; have HO154 := n3_; clear n0_ n1_ n2_ n3_; clear ho hb hg hat))
                          go_roundg k2
                          case measure => have := HJ3.out; have := HK2.out; omega
                          case rel => exact ⟨(y152), (wrap64 (x10_2 + 1)), (by first | rfl | (simp; done) | (simp [*]; done)), H', ⟨by have := HJ3.out; have := HK2.out; omega⟩, ⟨by (with_reducible repeat (first | apply Kd.R_alloc | apply Kd.R_drewN | apply Kd.R_drew)); exact HO154.out⟩, ⟨by (with_reducible repeat (first | apply Kd.R_alloc | apply Kd.R_drewN | apply Kd.R_drew)); exact HO_8.out⟩, ⟨by (with_reducible repeat (first | apply Kd.R_alloc | apply Kd.R_drewN | apply Kd.R_drew)); exact HO_9.out⟩, ⟨by repeat (first | (with_reducible first | exact HB.out | apply below_alloc | apply pw_below_drewN | apply below_drew1) | exact HB.out)⟩⟩
                        · rw [if_neg c61] at H
                          exact absurd H (by simp)
                      · replace c60 := Bool.eq_false_iff.mpr c60
                        subst c60
                        have H1 : (if x10_2 < (t127.length : Int) then (if rdOf false t127 x10_2 = true then (if x7_2.length < 17592186044416 then (spec_l4Mix.l0 k2 a2 (x7_2 ++ [x10_2]) t124 t127 (wrap64 (x10_2 + 1))) else (none)) else (if a2 = 2 then (spec_l4Mix.l0 k2 a2 x7_2 t124 t127 (wrap64 (x10_2 + 1))) else (spec_l4Mix.l0 k2 a2 x7_2 t124 t127 (wrap64 (x10_2 + 1))))) else (none)) = some r := by rw [if_neg (show ¬ (false = true) by decide)] at H; exact H
                        clear H
                        have H := H1
                        clear H1
                        by_cases c64 : x10_2 < (t127.length : Int)
                        · rw [if_pos c64] at H
                          have c64b0 : decide (x10_2 < (t127.length : Int)) = true := decide_eq_true c64
                          clear c64
                          obtain ⟨bq65, hbq65⟩ : ∃ b_ : Bool, b_ = (rdOf false t127 x10_2) := ⟨_, rfl⟩
                          replace H : (if bq65 = true then (if x7_2.length < 17592186044416 then (spec_l4Mix.l0 k2 a2 (x7_2 ++ [x10_2]) t124 t127 (wrap64 (x10_2 + 1))) else (none)) else (if a2 = 2 then (spec_l4Mix.l0 k2 a2 x7_2 t124 t127 (wrap64 (x10_2 + 1))) else (spec_l4Mix.l0 k2 a2 x7_2 t124 t127 (wrap64 (x10_2 + 1))))) = some r := by rw [← hbq65] at H; exact H
                          have Nbq65 := Aside0.mk hbq65
                          clear hbq65
                          by_cases c66 : bq65 = true
                          · subst c66
                            have H1 : (if x7_2.length < 17592186044416 then (spec_l4Mix.l0 k2 a2 (x7_2 ++ [x10_2]) t124 t127 (wrap64 (x10_2 + 1))) else (none)) = some r := by rw [if_pos rfl] at H; exact H
                            clear H
                            have H := H1
                            clear H1
                            by_cases c67 : x7_2.length < 17592186044416
                            · rw [if_pos c67] at H
                              have LMc67 := Aside0.mk c67
                              clear c67
                              obtain ⟨y156, hy156⟩ : ∃ y_ : List Int, y_ = (x7_2 ++ [x10_2]) := ⟨_, rfl⟩
                              replace H : (spec_l4Mix.l0 k2 a2 y156 t124 t127 (wrap64 (x10_2 + 1))) = some r := by first | (rw [hy156]; with_reducible exact H) | (have H2_ := (Option.bind_some _ _).symm.trans H; rw [hy156]; with_reducible exact H2_) | (have H2_ := (Option.bind_some _ _).symm.trans H; with_reducible exact H2_) | with_reducible exact H | (rw [hy156]; exact H) | exact H
                              have Ny156 := Aside0.mk hy156
                              clear hy156
                              have H' := Aside0.mk H
                              clear H
                              obtain ⟨Ao68, co68, eo68⟩ := Kd.R_slice HO_8.out
                              subst eo68
                              have p151 : 0 ≤ (x10_2 : Int) := of_decide_eq_true (by first | (with_reducible assumption) | assumption)
                              have q151 : x10_2 < (t124.length : Int) := of_decide_eq_true (by first | (with_reducible assumption) | assumption)
                              obtain ⟨ad151, e151, hx151_0⟩ := Kd.at_bool (Kd.R_reads' HO_8.out).2.2 x10_2 p151 q151
                              (try rw [← Nbq59.out] at hx151_0)
                              (try rw [← Nbq65.out] at hx151_0)
                              cases e151
                              replace p151 := eq_true p151
                              replace q151 := eq_true q151
                              obtain ⟨Ao69, co69, eo69⟩ := Kd.R_slice HO_9.out
                              subst eo69
                              have p155 : 0 ≤ (x10_2 : Int) := of_decide_eq_true (by first | (with_reducible assumption) | assumption)
                              have q155 : x10_2 < (t127.length : Int) := of_decide_eq_true (by first | (with_reducible assumption) | assumption)
                              obtain ⟨ad155, e155, hx155_0⟩ := Kd.at_bool (Kd.R_reads' HO_9.out).2.2 x10_2 p155 q155
                              (try rw [← Nbq59.out] at hx155_0)
                              (try rw [← Nbq65.out] at hx155_0)
                              cases e155
                              replace p155 := eq_true p155
                              replace q155 := eq_true q155
                              go_wp2_with (first | ((with_reducible refine gate_builtin (b := .append) (xs := #[.tmp 76, .tmp 78]) rfl ?_); at_builtin; refine Kd.R_append (Kd.int .i64) (w0 := w) w.heap.size rfl (.tmp 76) (.tmp 78) 49 3 (.int .i64 0) 8 rfl Try.underlying49 info3 rfl (by decide) (by omega) u7 x7_2 x10_2 [.int .i64 x10_2] (fun _ => True) (fun _ => False) rfl rfl ?aP (fun _ hk => hk.elim) ?aF ?aO ?aB ?aS ?aL ?_; (case aP => exact rfl); (case aB => exact (by repeat (first | (with_reducible first | exact HB.out | apply below_alloc | apply pw_below_drewN | apply below_drew1) | exact HB.out))); (case aF => exact (fun _ _ => trivial)); (case aO => exact (by (with_reducible repeat (first | apply Kd.R_alloc | apply Kd.R_drewN | apply Kd.R_drew)); exact HO_7.out)); (case aS => exact (below_size (by repeat (first | (with_reducible first | exact HB.out | apply below_alloc | apply pw_below_drewN | apply below_drew1) | exact HB.out)))); (case aL => have := LMc67.out; omega); intro v157 w70 ho hb hg hat; rw [← Ny156.out] at ho; have n0_ := Aside0.mk (Kd.R_over' (by (with_reducible repeat (first | apply Kd.R_alloc | apply Kd.R_drewN | apply Kd.R_drew)); exact HO_8.out) (Kd.R_typed (by (with_reducible repeat (first | apply Kd.R_alloc | apply Kd.R_drewN | apply Kd.R_drew)); exact HO_7.out)) (by decide) hg); have n1_ := Aside0.mk (Kd.R_over' (by (with_reducible repeat (first | apply Kd.R_alloc | apply Kd.R_drewN | apply Kd.R_drew)); exact HO_9.out) (Kd.R_typed (by (with_reducible repeat (first | apply Kd.R_alloc | apply Kd.R_drewN | apply Kd.R_drew)); exact HO_7.out)) (by decide) hg); have n2_ := Aside0.mk (hb); have n3_ := Aside0.mk (ho); clear HO_8; clear HO_9; clear HB; clear HO_7; have HO_8 := n0_; have HO_9 := n1_; have HB := n2_; have HO158 := n3_; clear n0_ n1_ n2_ n3_; clear ho hb hg hat))
                              go_roundg k2
                              case measure => have := HJ3.out; have := HK2.out; omega
                              case rel => exact ⟨(y156), (wrap64 (x10_2 + 1)), (by first | rfl | (simp; done) | (simp [*]; done)), H', ⟨by have := HJ3.out; have := HK2.out; omega⟩, ⟨by (with_reducible repeat (first | apply Kd.R_alloc | apply Kd.R_drewN | apply Kd.R_drew)); exact HO158.out⟩, ⟨by (with_reducible repeat (first | apply Kd.R_alloc | apply Kd.R_drewN | apply Kd.R_drew)); exact HO_8.out⟩, ⟨by (with_reducible repeat (first | apply Kd.R_alloc | apply Kd.R_drewN | apply Kd.R_drew)); exact HO_9.out⟩, ⟨by repeat (first | (with_reducible first | exact HB.out | apply below_alloc | apply pw_below_drewN | apply below_drew1) | exact HB.out)⟩⟩
                            · rw [if_neg c67] at H
                              exact absurd H (by simp)
                          · replace c66 := Bool.eq_false_iff.mpr c66
                            subst c66
                            have H1 : (if a2 = 2 then (spec_l4Mix.l0 k2 a2 x7_2 t124 t127 (wrap64 (x10_2 + 1))) else (spec_l4Mix.l0 k2 a2 x7_2 t124 t127 (wrap64 (x10_2 + 1)))) = some r := by rw [if_neg (show ¬ (false = true) by decide)] at H; exact H
                            clear H
                            have H := H1
                            clear H1
                            by_cases c71 : a2 = 2
                            · rw [if_pos c71] at H
                              have c71b0 : (a2 == 2) = true := beq_iff_eq.mpr c71
                              have c71b1 : (a2 != 2) = false := bne_eq_false_iff_eq.mpr c71
                              clear c71
                              have H' := Aside0.mk H
                              clear H
                              obtain ⟨Ao72, co72, eo72⟩ := Kd.R_slice HO_8.out
                              subst eo72
                              have p151 : 0 ≤ (x10_2 : Int) := of_decide_eq_true (by first | (with_reducible assumption) | assumption)
                              have q151 : x10_2 < (t124.length : Int) := of_decide_eq_true (by first | (with_reducible assumption) | assumption)
                              obtain ⟨ad151, e151, hx151_0⟩ := Kd.at_bool (Kd.R_reads' HO_8.out).2.2 x10_2 p151 q151
                              (try rw [← Nbq59.out] at hx151_0)
                              (try rw [← Nbq65.out] at hx151_0)
                              cases e151
                              replace p151 := eq_true p151
                              replace q151 := eq_true q151
                              obtain ⟨Ao73, co73, eo73⟩ := Kd.R_slice HO_9.out
                              subst eo73
                              have p155 : 0 ≤ (x10_2 : Int) := of_decide_eq_true (by first | (with_reducible assumption) | assumption)
                              have q155 : x10_2 < (t127.length : Int) := of_decide_eq_true (by first | (with_reducible assumption) | assumption)
                              obtain ⟨ad155, e155, hx155_0⟩ := Kd.at_bool (Kd.R_reads' HO_9.out).2.2 x10_2 p155 q155
                              (try rw [← Nbq59.out] at hx155_0)
                              (try rw [← Nbq65.out] at hx155_0)
                              cases e155
                              replace p155 := eq_true p155
                              replace q155 := eq_true q155
                              have p159 : 0 ≤ (x10_2 : Int) := of_decide_eq_true (by first | (with_reducible assumption) | assumption)
                              have q159 : x10_2 < (t124.length : Int) := of_decide_eq_true (by first | (with_reducible assumption) | assumption)
                              obtain ⟨ad159, e159, hx159_0⟩ := Kd.at_bool (Kd.R_reads' HO_8.out).2.2 x10_2 p159 q159
                              (try rw [← Nbq59.out] at hx159_0)
                              (try rw [← Nbq65.out] at hx159_0)
                              obtain rfl : ad151 = ad159 := (by injection e159)
                              replace p159 := eq_true p159
                              replace q159 := eq_true q159
                              go_wp2
                              go_roundg k2
                              case measure => have := HJ3.out; have := HK2.out; omega
                              case rel => exact ⟨(x7_2), (wrap64 (x10_2 + 1)), (by first | rfl | (simp; done) | (simp [*]; done)), H', ⟨by have := HJ3.out; have := HK2.out; omega⟩, ⟨by (with_reducible repeat (first | apply Kd.R_alloc | apply Kd.R_drewN | apply Kd.R_drew)); exact HO_7.out⟩, ⟨by (with_reducible repeat (first | apply Kd.R_alloc | apply Kd.R_drewN | apply Kd.R_drew)); exact HO_8.out⟩, ⟨by (with_reducible repeat (first | apply Kd.R_alloc | apply Kd.R_drewN | apply Kd.R_drew)); exact HO_9.out⟩, ⟨by repeat (first | (with_reducible first | exact HB.out | apply below_alloc | apply pw_below_drewN | apply below_drew1) | exact HB.out)⟩⟩
                            · rw [if_neg c71] at H
                              have c71b0 : (a2 == 2) = false := beq_eq_false_iff_ne.mpr c71
                              have c71b1 : (a2 != 2) = true := bne_iff_ne.mpr c71
                              have H' := Aside0.mk H
                              clear H
                              obtain ⟨Ao74, co74, eo74⟩ := Kd.R_slice HO_8.out
                              subst eo74
                              have p151 : 0 ≤ (x10_2 : Int) := of_decide_eq_true (by first | (with_reducible assumption) | assumption)
                              have q151 : x10_2 < (t124.length : Int) := of_decide_eq_true (by first | (with_reducible assumption) | assumption)
                              obtain ⟨ad151, e151, hx151_0⟩ := Kd.at_bool (Kd.R_reads' HO_8.out).2.2 x10_2 p151 q151
                              (try rw [← Nbq59.out] at hx151_0)
                              (try rw [← Nbq65.out] at hx151_0)
                              cases e151
                              replace p151 := eq_true p151
                              replace q151 := eq_true q151
                              obtain ⟨Ao75, co75, eo75⟩ := Kd.R_slice HO_9.out
                              subst eo75
                              have p155 : 0 ≤ (x10_2 : Int) := of_decide_eq_true (by first | (with_reducible assumption) | assumption)
                              have q155 : x10_2 < (t127.length : Int) := of_decide_eq_true (by first | (with_reducible assumption) | assumption)
                              obtain ⟨ad155, e155, hx155_0⟩ := Kd.at_bool (Kd.R_reads' HO_9.out).2.2 x10_2 p155 q155
                              (try rw [← Nbq59.out] at hx155_0)
                              (try rw [← Nbq65.out] at hx155_0)
                              cases e155
                              replace p155 := eq_true p155
                              replace q155 := eq_true q155
                              go_wp2
                              go_roundg k2
                              case measure => have := HJ3.out; have := HK2.out; omega
                              case rel => exact ⟨(x7_2), (wrap64 (x10_2 + 1)), (by first | rfl | (simp; done) | (simp [*]; done)), H', ⟨by have := HJ3.out; have := HK2.out; omega⟩, ⟨by (with_reducible repeat (first | apply Kd.R_alloc | apply Kd.R_drewN | apply Kd.R_drew)); exact HO_7.out⟩, ⟨by (with_reducible repeat (first | apply Kd.R_alloc | apply Kd.R_drewN | apply Kd.R_drew)); exact HO_8.out⟩, ⟨by (with_reducible repeat (first | apply Kd.R_alloc | apply Kd.R_drewN | apply Kd.R_drew)); exact HO_9.out⟩, ⟨by repeat (first | (with_reducible first | exact HB.out | apply below_alloc | apply pw_below_drewN | apply below_drew1) | exact HB.out)⟩⟩
                        · rw [if_neg c64] at H
                          exact absurd H (by simp)
                    · rw [if_neg c58] at H
                      exact absurd H (by simp)
                  · rw [if_neg c57] at H
                    exact absurd H (by simp)
                · rw [if_neg c56] at H
                  have c56b0 : (a2 == 1) = false := beq_eq_false_iff_ne.mpr c56
                  have c56b1 : (a2 != 1) = true := bne_iff_ne.mpr c56
                  by_cases c76 : a2 = 2
                  · rw [if_pos c76] at H
                    have c76b0 : (a2 == 2) = true := beq_iff_eq.mpr c76
                    have c76b1 : (a2 != 2) = false := bne_eq_false_iff_eq.mpr c76
                    clear c76
                    by_cases c77 : 0 ≤ x10_2
                    · rw [if_pos c77] at H
                      have c77b0 : decide (0 ≤ x10_2) = true := decide_eq_true c77
                      clear c77
                      by_cases c78 : x10_2 < (t124.length : Int)
                      · rw [if_pos c78] at H
                        have c78b0 : decide (x10_2 < (t124.length : Int)) = true := decide_eq_true c78
                        clear c78
                        obtain ⟨bq79, hbq79⟩ : ∃ b_ : Bool, b_ = (rdOf false t124 x10_2) := ⟨_, rfl⟩
                        replace H : (if bq79 = true then (if x10_2 < (t127.length : Int) then (if rdOf false t127 x10_2 = true then (spec_l4Mix.l0 k2 a2 x7_2 t124 t127 (wrap64 (x10_2 + 1))) else (if x7_2.length < 17592186044416 then (spec_l4Mix.l0 k2 a2 (x7_2 ++ [x10_2]) t124 t127 (wrap64 (x10_2 + 1))) else (none))) else (none)) else (spec_l4Mix.l0 k2 a2 x7_2 t124 t127 (wrap64 (x10_2 + 1)))) = some r := by rw [← hbq79] at H; exact H
                        have Nbq79 := Aside0.mk hbq79
                        clear hbq79
                        by_cases c80 : bq79 = true
                        · subst c80
                          have H1 : (if x10_2 < (t127.length : Int) then (if rdOf false t127 x10_2 = true then (spec_l4Mix.l0 k2 a2 x7_2 t124 t127 (wrap64 (x10_2 + 1))) else (if x7_2.length < 17592186044416 then (spec_l4Mix.l0 k2 a2 (x7_2 ++ [x10_2]) t124 t127 (wrap64 (x10_2 + 1))) else (none))) else (none)) = some r := by rw [if_pos rfl] at H; exact H
                          clear H
                          have H := H1
                          clear H1
                          by_cases c81 : x10_2 < (t127.length : Int)
                          · rw [if_pos c81] at H
                            have c81b0 : decide (x10_2 < (t127.length : Int)) = true := decide_eq_true c81
                            clear c81
                            obtain ⟨bq82, hbq82⟩ : ∃ b_ : Bool, b_ = (rdOf false t127 x10_2) := ⟨_, rfl⟩
                            replace H : (if bq82 = true then (spec_l4Mix.l0 k2 a2 x7_2 t124 t127 (wrap64 (x10_2 + 1))) else (if x7_2.length < 17592186044416 then (spec_l4Mix.l0 k2 a2 (x7_2 ++ [x10_2]) t124 t127 (wrap64 (x10_2 + 1))) else (none))) = some r := by rw [← hbq82] at H; exact H
                            have Nbq82 := Aside0.mk hbq82
                            clear hbq82
                            by_cases c83 : bq82 = true
                            · subst c83
                              have H1 : (spec_l4Mix.l0 k2 a2 x7_2 t124 t127 (wrap64 (x10_2 + 1))) = some r := by rw [if_pos rfl] at H; exact H
                              clear H
                              have H := H1
                              clear H1
                              have H' := Aside0.mk H
                              clear H
                              obtain ⟨Ao84, co84, eo84⟩ := Kd.R_slice HO_8.out
                              subst eo84
                              have p160 : 0 ≤ (x10_2 : Int) := of_decide_eq_true (by first | (with_reducible assumption) | assumption)
                              have q160 : x10_2 < (t124.length : Int) := of_decide_eq_true (by first | (with_reducible assumption) | assumption)
                              obtain ⟨ad160, e160, hx160_0⟩ := Kd.at_bool (Kd.R_reads' HO_8.out).2.2 x10_2 p160 q160
                              (try rw [← Nbq79.out] at hx160_0)
                              (try rw [← Nbq82.out] at hx160_0)
                              cases e160
                              replace p160 := eq_true p160
                              replace q160 := eq_true q160
                              obtain ⟨Ao85, co85, eo85⟩ := Kd.R_slice HO_9.out
                              subst eo85
                              have p161 : 0 ≤ (x10_2 : Int) := of_decide_eq_true (by first | (with_reducible assumption) | assumption)
                              have q161 : x10_2 < (t127.length : Int) := of_decide_eq_true (by first | (with_reducible assumption) | assumption)
                              obtain ⟨ad161, e161, hx161_0⟩ := Kd.at_bool (Kd.R_reads' HO_9.out).2.2 x10_2 p161 q161
                              (try rw [← Nbq79.out] at hx161_0)
                              (try rw [← Nbq82.out] at hx161_0)
                              cases e161
                              replace p161 := eq_true p161
                              replace q161 := eq_true q161
                              go_wp2
                              go_roundg k2
                              case measure => have := HJ3.out; have := HK2.out; omega
                              case rel => exact ⟨(x7_2), (wrap64 (x10_2 + 1)), (by first | rfl | (simp; done) | (simp [*]; done)), H', ⟨by have := HJ3.out; have := HK2.out; omega⟩, ⟨by (with_reducible repeat (first | apply Kd.R_alloc | apply Kd.R_drewN | apply Kd.R_drew)); exact HO_7.out⟩, ⟨by (with_reducible repeat (first | apply Kd.R_alloc | apply Kd.R_drewN | apply Kd.R_drew)); exact HO_8.out⟩, ⟨by (with_reducible repeat (first | apply Kd.R_alloc | apply Kd.R_drewN | apply Kd.R_drew)); exact HO_9.out⟩, ⟨by repeat (first | (with_reducible first | exact HB.out | apply below_alloc | apply pw_below_drewN | apply below_drew1) | exact HB.out)⟩⟩
                            · replace c83 := Bool.eq_false_iff.mpr c83
                              subst c83
                              have H1 : (if x7_2.length < 17592186044416 then (spec_l4Mix.l0 k2 a2 (x7_2 ++ [x10_2]) t124 t127 (wrap64 (x10_2 + 1))) else (none)) = some r := by rw [if_neg (show ¬ (false = true) by decide)] at H; exact H
                              clear H
                              have H := H1
                              clear H1
                              by_cases c86 : x7_2.length < 17592186044416
                              · rw [if_pos c86] at H
                                have LMc86 := Aside0.mk c86
                                clear c86
                                obtain ⟨y162, hy162⟩ : ∃ y_ : List Int, y_ = (x7_2 ++ [x10_2]) := ⟨_, rfl⟩
                                replace H : (spec_l4Mix.l0 k2 a2 y162 t124 t127 (wrap64 (x10_2 + 1))) = some r := by first | (rw [hy162]; with_reducible exact H) | (have H2_ := (Option.bind_some _ _).symm.trans H; rw [hy162]; with_reducible exact H2_) | (have H2_ := (Option.bind_some _ _).symm.trans H; with_reducible exact H2_) | with_reducible exact H | (rw [hy162]; exact H) | exact H
                                have Ny162 := Aside0.mk hy162
                                clear hy162
                                have H' := Aside0.mk H
                                clear H
                                obtain ⟨Ao87, co87, eo87⟩ := Kd.R_slice HO_8.out
                                subst eo87
                                have p160 : 0 ≤ (x10_2 : Int) := of_decide_eq_true (by first | (with_reducible assumption) | assumption)
                                have q160 : x10_2 < (t124.length : Int) := of_decide_eq_true (by first | (with_reducible assumption) | assumption)
                                obtain ⟨ad160, e160, hx160_0⟩ := Kd.at_bool (Kd.R_reads' HO_8.out).2.2 x10_2 p160 q160
                                (try rw [← Nbq79.out] at hx160_0)
                                (try rw [← Nbq82.out] at hx160_0)
                                cases e160
                                replace p160 := eq_true p160
                                replace q160 := eq_true q160
                                obtain ⟨Ao88, co88, eo88⟩ := Kd.R_slice HO_9.out
                                subst eo88
                                have p161 : 0 ≤ (x10_2 : Int) := of_decide_eq_true (by first | (with_reducible assumption) | assumption)
                                have q161 : x10_2 < (t127.length : Int) := of_decide_eq_true (by first | (with_reducible assumption) | assumption)
                                obtain ⟨ad161, e161, hx161_0⟩ := Kd.at_bool (Kd.R_reads' HO_9.out).2.2 x10_2 p161 q161
                                (try rw [← Nbq79.out] at hx161_0)
                                (try rw [← Nbq82.out] at hx161_0)
                                cases e161
                                replace p161 := eq_true p161
                                replace q161 := eq_true q161
                                go_wp2_with (first | ((with_reducible refine gate_builtin (b := .append) (xs := #[.tmp 76, .tmp 78]) rfl ?_); at_builtin; refine Kd.R_append (Kd.int .i64) (w0 := w) w.heap.size rfl (.tmp 76) (.tmp 78) 49 3 (.int .i64 0) 8 rfl Try.underlying49 info3 rfl (by decide) (by omega) u7 x7_2 x10_2 [.int .i64 x10_2] (fun _ => True) (fun _ => False) rfl rfl ?aP (fun _ hk => hk.elim) ?aF ?aO ?aB ?aS ?aL ?_; (case aP => exact rfl); (case aB => exact (by repeat (first | (with_reducible first | exact HB.out | apply below_alloc | apply pw_below_drewN | apply below_drew1) | exact HB.out))); (case aF => exact (fun _ _ => trivial)); (case aO => exact (by (with_reducible repeat (first | apply Kd.R_alloc | apply Kd.R_drewN | apply Kd.R_drew)); exact HO_7.out)); (case aS => exact (below_size (by repeat (first | (with_reducible first | exact HB.out | apply below_alloc | apply pw_below_drewN | apply below_drew1) | exact HB.out)))); (case aL => have := LMc86.out; omega); intro v163 w89 ho hb hg hat; rw [← Ny162.out] at ho; have n0_ := Aside0.mk (Kd.R_over' (by (with_reducible repeat (first | apply Kd.R_alloc | apply Kd.R_drewN | apply Kd.R_drew)); exact HO_8.out) (Kd.R_typed (by (with_reducible repeat (first | apply Kd.R_alloc | apply Kd.R_drewN | apply Kd.R_drew)); exact HO_7.out)) (by decide) hg); have n1_ := Aside0.mk (Kd.R_over' (by (with_reducible repeat (first | apply Kd.R_alloc | apply Kd.R_drewN | apply Kd.R_drew)); exact HO_9.out) (Kd.R_typed (by (with_reducible repeat (first | apply Kd.R_alloc | apply Kd.R_drewN | apply Kd.R_drew)); exact HO_7.out)) (by decide) hg); have n2_ := Aside0.mk (hb); have n3_ := Aside0.mk (ho); clear HO_8; clear HO_9; clear HB; clear HO_7; have HO_8 := n0_; have HO_9 := n1_; have HB := n2_; have HO164 := n3_; clear n0_ n1_ n2_ n3_; clear ho hb hg hat))
                                go_roundg k2
                                case measure => have := HJ3.out; have := HK2.out; omega
                                case rel => exact ⟨(y162), (wrap64 (x10_2 + 1)), (by first | rfl | (simp; done) | (simp [*]; done)), H', ⟨by have := HJ3.out; have := HK2.out; omega⟩, ⟨by (with_reducible repeat (first | apply Kd.R_alloc | apply Kd.R_drewN | apply Kd.R_drew)); exact HO164.out⟩, ⟨by (with_reducible repeat (first | apply Kd.R_alloc | apply Kd.R_drewN | apply Kd.R_drew)); exact HO_8.out⟩, ⟨by (with_reducible repeat (first | apply Kd.R_alloc | apply Kd.R_drewN | apply Kd.R_drew)); exact HO_9.out⟩, ⟨by repeat (first | (with_reducible first | exact HB.out | apply below_alloc | apply pw_below_drewN | apply below_drew1) | exact HB.out)⟩⟩
                              · rw [if_neg c86] at H
                                exact absurd H (by simp)
                          · rw [if_neg c81] at H
                            exact absurd H (by simp)
                        · replace c80 := Bool.eq_false_iff.mpr c80
                          subst c80
                          have H1 : (spec_l4Mix.l0 k2 a2 x7_2 t124 t127 (wrap64 (x10_2 + 1))) = some r := by rw [if_neg (show ¬ (false = true) by decide)] at H; exact H
                          clear H
                          have H := H1
                          clear H1
                          have H' := Aside0.mk H
                          clear H
                          obtain ⟨Ao90, co90, eo90⟩ := Kd.R_slice HO_8.out
                          subst eo90
                          have p160 : 0 ≤ (x10_2 : Int) := of_decide_eq_true (by first | (with_reducible assumption) | assumption)
                          have q160 : x10_2 < (t124.length : Int) := of_decide_eq_true (by first | (with_reducible assumption) | assumption)
                          obtain ⟨ad160, e160, hx160_0⟩ := Kd.at_bool (Kd.R_reads' HO_8.out).2.2 x10_2 p160 q160
                          (try rw [← Nbq79.out] at hx160_0)
                          cases e160
                          replace p160 := eq_true p160
                          replace q160 := eq_true q160
                          go_wp2
                          go_roundg k2
                          case measure => have := HJ3.out; have := HK2.out; omega
                          case rel => exact ⟨(x7_2), (wrap64 (x10_2 + 1)), (by first | rfl | (simp; done) | (simp [*]; done)), H', ⟨by have := HJ3.out; have := HK2.out; omega⟩, ⟨by (with_reducible repeat (first | apply Kd.R_alloc | apply Kd.R_drewN | apply Kd.R_drew)); exact HO_7.out⟩, ⟨by (with_reducible repeat (first | apply Kd.R_alloc | apply Kd.R_drewN | apply Kd.R_drew)); exact HO_8.out⟩, ⟨by (with_reducible repeat (first | apply Kd.R_alloc | apply Kd.R_drewN | apply Kd.R_drew)); exact HO_9.out⟩, ⟨by repeat (first | (with_reducible first | exact HB.out | apply below_alloc | apply pw_below_drewN | apply below_drew1) | exact HB.out)⟩⟩
                      · rw [if_neg c78] at H
                        exact absurd H (by simp)
                    · rw [if_neg c77] at H
                      exact absurd H (by simp)
                  · rw [if_neg c76] at H
                    have c76b0 : (a2 == 2) = false := beq_eq_false_iff_ne.mpr c76
                    have c76b1 : (a2 != 2) = true := bne_iff_ne.mpr c76
                    have H' := Aside0.mk H
                    clear H
                    go_wp2
                    go_roundg k2
                    case measure => have := HJ3.out; have := HK2.out; omega
                    case rel => exact ⟨(x7_2), (wrap64 (x10_2 + 1)), (by first | rfl | (simp; done) | (simp [*]; done)), H', ⟨by have := HJ3.out; have := HK2.out; omega⟩, ⟨by (with_reducible repeat (first | apply Kd.R_alloc | apply Kd.R_drewN | apply Kd.R_drew)); exact HO_7.out⟩, ⟨by (with_reducible repeat (first | apply Kd.R_alloc | apply Kd.R_drewN | apply Kd.R_drew)); exact HO_8.out⟩, ⟨by (with_reducible repeat (first | apply Kd.R_alloc | apply Kd.R_drewN | apply Kd.R_drew)); exact HO_9.out⟩, ⟨by repeat (first | (with_reducible first | exact HB.out | apply below_alloc | apply pw_below_drewN | apply below_drew1) | exact HB.out)⟩⟩
            · rw [if_neg c15] at H
              have c15b0 : decide (x10_2 < 400) = false := decide_eq_false c15
              clear c15
              obtain rfl := Option.some.inj H
              go_wp2
              go_ret
              exact ⟨_, by first | rfl | (simp [errW_none, errW_some] <;> rfl) | (simp [*, errW_none, errW_some] <;> rfl), by (with_reducible repeat (first | apply Kd.R_alloc | apply Kd.R_drewN | apply Kd.R_drew)); exact HO_7.out, by repeat (first | (with_reducible first | exact HB.out | apply below_alloc | apply pw_below_drewN | apply below_drew1) | exact HB.out)⟩

end Go.Proofs.Ytbjkjoicecmmpaa.XFnExactSetWithout
