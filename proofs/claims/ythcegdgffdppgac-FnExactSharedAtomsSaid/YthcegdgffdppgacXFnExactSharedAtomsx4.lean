/- Printed by a program of this session out of the translation: the Go functions that a law uses as plain Lean functions, with the proofs of their calls, or the law's row.
Conditions: those that each theorem states. -/
import Derived.Test.YthcegdgffdppgacXFnExactSharedAtomsx0
import Derived.Test.YthcegdgffdppgacXFnExactSharedAtomsx3
namespace Go.Proofs.Ythcegdgffdppgac.XFnExactSharedAtoms
open Go.RowKit Go.Proofs.YthcegdgffdppgacW.PrintWords Go.Proofs.YthcegdgffdppgacW.PrintLast Go.Proofs.YthcegdgffdppgacW.PrintMore
attribute [local go_sem] max2_int min2_int max_two min_two max_three min_three max_four min_four   -- for this text's walks alone
set_option linter.unusedVariables false
set_option linter.unusedSimpArgs false

/-! ### impl_ClauseValid: function 37 -/
def impl_ClauseValid.l0 : Nat → List Int → Int → List Int → Int → Int → Option (Bool)
  | 0, _, _, _, _, _ => none
  | k + 1, x0, x1, x10, x11, x12 => if x12 < x11 then (if 0 ≤ x12 then (if x12 < (x10.length : Int) then ((impl_in.f (rd x10 x12) (wrap64 (-x1)) x1).bind fun t184 => (if t184 = true then (if (rd x10 x12) = 0 then (some false) else (if x12 > 0 then (if 0 ≤ (wrap64 (x12 - 1)) then (if (wrap64 (x12 - 1)) < (x0.length : Int) then ((impl_atomOf.f (rd x0 (wrap64 (x12 - 1)))).bind fun t186 => ((impl_atomOf.f (rd x10 x12)).bind fun t187 => (if t186 ≥ t187 then (some false) else (impl_ClauseValid.l0 k x0 x1 x10 x11 (wrap64 (x12 + 1)))))) else (none)) else (none)) else (impl_ClauseValid.l0 k x0 x1 x10 x11 (wrap64 (x12 + 1))))) else (some false))) else (none)) else (none)) else (some true)
def impl_ClauseValid.f (k : Nat) (l0 : List Int) (a1 : Int) : Option (Bool) := (impl_in.f a1 0 700).bind fun t182 => (if t182 = true then (impl_ClauseValid.l0 k l0 a1 l0 (l0.length : Int) 0) else (some false))
theorem impl_ClauseValid.mono_l : ∀ k, (∀ y0 y1 y2 y3 y4, LeO (impl_ClauseValid.l0 k y0 y1 y2 y3 y4) (impl_ClauseValid.l0 (k + 1) y0 y1 y2 y3 y4))
  | 0 => fun _ _ _ _ _ r h => by simp [impl_ClauseValid.l0] at h
  | k + 1 => by
    have ih0 := impl_ClauseValid.mono_l k
    · intro y0 y1 y2 y3 y4
      unfold impl_ClauseValid.l0
      repeat' first
      | (with_reducible exact ih0 _ _ _ _ _)
      | (with_reducible exact LeO.refl _)
      | (with_reducible exact LeO.none _)
      | (with_reducible refine LeO.ite ?_ ?_)
      | (with_reducible refine LeO.bind ?_ (fun _ => ?_))
      | exact ih0 _ _ _ _ _
      | exact LeO.none _
      | refine LeO.ite ?_ ?_
      | refine LeO.bind ?_ (fun _ => ?_)
theorem impl_ClauseValid.mono : ∀ a0 a1 k, LeO (impl_ClauseValid.f k a0 a1) (impl_ClauseValid.f (k + 1) a0 a1) := by
  intro a0 a1 k
  have ih0 := impl_ClauseValid.mono_l k
  unfold impl_ClauseValid.f
  repeat' first
      | (with_reducible exact ih0 _ _ _ _ _)
      | (with_reducible exact LeO.refl _)
      | (with_reducible exact LeO.none _)
      | (with_reducible refine LeO.ite ?_ ?_)
      | (with_reducible refine LeO.bind ?_ (fun _ => ?_))
      | exact ih0 _ _ _ _ _
      | exact LeO.none _
      | refine LeO.ite ?_ ?_
      | refine LeO.bind ?_ (fun _ => ?_)
set_option maxHeartbeats 8000000 in
set_option maxRecDepth 100000 in
theorem impl_ClauseValid.calls (k : Nat) (A0 : Option Addr) (c0 : Nat) (l0 : List Int) (a1 : Int) (r : Bool) (w : World) (hr0 : Kd.C (Kd.int .i64) w A0 l0.length l0) (hc0 : l0.length ≤ c0) (h : impl_ClauseValid.f k l0 a1 = some r) :
    Calls Try.prog 37 #[.slice A0 l0.length c0, .int .i64 a1] w fun e w' => e = .returned (.bool r) ∧ Below w.heap.size w w' := by
  have HR0 := Aside0.mk hr0
  have HC0 := Aside0.mk hc0
  clear hr0 hc0
  have HB := Aside0.mk (Below.refl w.heap.size w)
  have H : ((impl_in.f a1 0 700).bind fun t182 => (if t182 = true then (impl_ClauseValid.l0 k l0 a1 l0 (l0.length : Int) 0) else (some false))) = some r := h
  clear h
  replace H := Option.bind_eq_some_iff.mp H
  obtain ⟨t182, A30, H⟩ := H
  replace H : (if t182 = true then (impl_ClauseValid.l0 k l0 a1 l0 (l0.length : Int) 0) else (some false)) = some r := H
  have A3 := Aside0.mk A30
  clear A30
  by_cases c4 : t182 = true
  · subst c4
    have H1 : (impl_ClauseValid.l0 k l0 a1 l0 (l0.length : Int) 0) = some r := by rw [if_pos rfl] at H; exact H
    clear H
    have H := H1
    clear H1
    have H' := Aside0.mk H
    clear H
    go_enter Try.func37, Try.ntmps37
    go_wp2_with (first | ((with_reducible refine gate_callee (f := 34) rfl ?_); refine goesL_ (some 8) rfl rfl Try.func34 (by kernel_rfl) rfl #[.int .i64 a1, .int .i64 0, .int .i64 700] rfl (by (try simp only [List.map_toArray, List.map_cons, List.map_nil]); first | done | rfl | (simp only [List.length_drop, List.length_take]; rfl)) ?_; (with_reducible refine (impl_in.calls a1 0 700 true _ A3.out).mono ?_); rintro e w' ⟨rfl, ⟨nd, rfl⟩⟩; refine ⟨_, rfl, ?_⟩))
    go_loopg [12] k (fun kq v12 w' => ∃ (x12_1 : Int), v12 = .int .i64 x12_1 ∧ Aside0 (impl_ClauseValid.l0 kq l0 a1 l0 (l0.length : Int) x12_1 = some r) ∧ Aside0 (kq ≤ k) ∧ Aside0 (Below w.heap.size w w'))
    case atStart => exact ⟨(0), (by first | rfl | (simp; done) | (simp [*]; done)), H', ⟨Nat.le_refl _⟩, ⟨by repeat (first | (with_reducible first | exact HB.out | apply below_alloc | apply pw_below_drewN | apply below_drew1) | exact HB.out)⟩⟩
    case round =>
      clear H'
      try clear p2
      try clear c3
      try clear c4
      obtain ⟨x12_1, rfl, HA, HK1, HB⟩ := hrel
      cases gk with
      | zero => exact absurd HA.out (by simp [impl_ClauseValid.l0])
      | succ k1 =>
        have H := HA.out
        clear HA
        simp only [impl_ClauseValid.l0] at H
        by_cases c5 : x12_1 < (l0.length : Int)
        · rw [if_pos c5] at H
          have c5b0 : decide (x12_1 < (l0.length : Int)) = true := decide_eq_true c5
          clear c5
          by_cases c6 : 0 ≤ x12_1
          · rw [if_pos c6] at H
            have c6b0 : decide (0 ≤ x12_1) = true := decide_eq_true c6
            clear c6
            by_cases c7 : x12_1 < (l0.length : Int)
            · rw [if_pos c7] at H
              have c7b0 : decide (x12_1 < (l0.length : Int)) = true := decide_eq_true c7
              clear c7
              replace H := Option.bind_eq_some_iff.mp H
              obtain ⟨t184, A80, H⟩ := H
              replace H : (if t184 = true then (if (rd l0 x12_1) = 0 then (some false) else (if x12_1 > 0 then (if 0 ≤ (wrap64 (x12_1 - 1)) then (if (wrap64 (x12_1 - 1)) < (l0.length : Int) then ((impl_atomOf.f (rd l0 (wrap64 (x12_1 - 1)))).bind fun t186 => ((impl_atomOf.f (rd l0 x12_1)).bind fun t187 => (if t186 ≥ t187 then (some false) else (impl_ClauseValid.l0 k1 l0 a1 l0 (l0.length : Int) (wrap64 (x12_1 + 1)))))) else (none)) else (none)) else (impl_ClauseValid.l0 k1 l0 a1 l0 (l0.length : Int) (wrap64 (x12_1 + 1))))) else (some false)) = some r := H
              have A8 := Aside0.mk A80
              clear A80
              by_cases c9 : t184 = true
              · subst c9
                have H1 : (if (rd l0 x12_1) = 0 then (some false) else (if x12_1 > 0 then (if 0 ≤ (wrap64 (x12_1 - 1)) then (if (wrap64 (x12_1 - 1)) < (l0.length : Int) then ((impl_atomOf.f (rd l0 (wrap64 (x12_1 - 1)))).bind fun t186 => ((impl_atomOf.f (rd l0 x12_1)).bind fun t187 => (if t186 ≥ t187 then (some false) else (impl_ClauseValid.l0 k1 l0 a1 l0 (l0.length : Int) (wrap64 (x12_1 + 1)))))) else (none)) else (none)) else (impl_ClauseValid.l0 k1 l0 a1 l0 (l0.length : Int) (wrap64 (x12_1 + 1))))) = some r := by rw [if_pos rfl] at H; exact H
                clear H
                have H := H1
                clear H1
                by_cases c10 : (rd l0 x12_1) = 0
                · rw [if_pos c10] at H
                  have c10b0 : ((rd l0 x12_1) == 0) = true := beq_iff_eq.mpr c10
                  have c10b1 : ((rd l0 x12_1) != 0) = false := bne_eq_false_iff_eq.mpr c10
                  clear c10
                  obtain rfl := Option.some.inj H
                  have p183 : 0 ≤ (x12_1 : Int) := of_decide_eq_true (by first | (with_reducible assumption) | assumption)
                  have q183 : x12_1 < (l0.length : Int) := of_decide_eq_true (by first | (with_reducible assumption) | assumption)
                  obtain ⟨ad183, e183, hx183_0⟩ := Kd.at_int HR0.out x12_1 p183 q183
                  cases e183
                  replace hx183_0 := (HB.out.cell (World.block_lt_of_cell? w _ hx183_0)).trans hx183_0
                  replace p183 := eq_true p183
                  replace q183 := eq_true q183
                  go_wp2_with (first | ((with_reducible refine gate_callee (f := 34) rfl ?_); refine goesL_ (some 21) rfl rfl Try.func34 (by kernel_rfl) rfl #[.int .i64 (rd l0 x12_1), .int .i64 (wrap64 (-a1)), .int .i64 a1] rfl (by (try simp only [List.map_toArray, List.map_cons, List.map_nil]); first | done | rfl | (simp only [List.length_drop, List.length_take]; rfl)) ?_; (with_reducible refine (impl_in.calls (rd l0 x12_1) (wrap64 (-a1)) a1 true _ A8.out).mono ?_); rintro e w' ⟨rfl, ⟨nd, rfl⟩⟩; refine ⟨_, rfl, ?_⟩))
                  go_ret
                  exact ⟨by first | rfl | (simp [errW_none, errW_some] <;> rfl) | (simp [*, errW_none, errW_some] <;> rfl), by repeat (first | (with_reducible first | exact HB.out | apply below_alloc | apply pw_below_drewN | apply below_drew1) | exact HB.out)⟩
                · rw [if_neg c10] at H
                  have c10b0 : ((rd l0 x12_1) == 0) = false := beq_eq_false_iff_ne.mpr c10
                  have c10b1 : ((rd l0 x12_1) != 0) = true := bne_iff_ne.mpr c10
                  by_cases c11 : x12_1 > 0
                  · rw [if_pos c11] at H
                    have c11b0 : decide (0 < x12_1) = true := decide_eq_true c11
                    clear c11
                    obtain ⟨ji12, hji12⟩ : ∃ j_ : Int, (wrap64 (x12_1 - 1)) = j_ := ⟨_, rfl⟩
                    replace H : (if 0 ≤ (ji12) then (if (ji12) < (l0.length : Int) then ((impl_atomOf.f (rd l0 (ji12))).bind fun t186 => ((impl_atomOf.f (rd l0 x12_1)).bind fun t187 => (if t186 ≥ t187 then (some false) else (impl_ClauseValid.l0 k1 l0 a1 l0 (l0.length : Int) (wrap64 (x12_1 + 1)))))) else (none)) else (none)) = some r := by first | (rw [hji12] at H; exact H) | (simp only [hji12] at H ⊢; exact H)
                    (try rw [hji12] at A8)
                    have hji12w : (IntKind.i64.wrap (x12_1 - 1)) = ji12 := (i64_w _).trans hji12
                    by_cases c13 : 0 ≤ (ji12)
                    · rw [if_pos c13] at H
                      have c13b0 : decide (0 ≤ (ji12)) = true := decide_eq_true c13
                      clear c13
                      by_cases c14 : (ji12) < (l0.length : Int)
                      · rw [if_pos c14] at H
                        have c14b0 : decide ((ji12) < (l0.length : Int)) = true := decide_eq_true c14
                        clear c14
                        replace H := Option.bind_eq_some_iff.mp H
                        obtain ⟨t186, A150, H⟩ := H
                        replace H : ((impl_atomOf.f (rd l0 x12_1)).bind fun t187 => (if t186 ≥ t187 then (some false) else (impl_ClauseValid.l0 k1 l0 a1 l0 (l0.length : Int) (wrap64 (x12_1 + 1))))) = some r := H
                        have A15 := Aside0.mk A150
                        clear A150
                        replace H := Option.bind_eq_some_iff.mp H
                        obtain ⟨t187, A160, H⟩ := H
                        replace H : (if t186 ≥ t187 then (some false) else (impl_ClauseValid.l0 k1 l0 a1 l0 (l0.length : Int) (wrap64 (x12_1 + 1)))) = some r := H
                        have A16 := Aside0.mk A160
                        clear A160
                        by_cases c17 : t186 ≥ t187
                        · rw [if_pos c17] at H
                          have c17b0 : decide (t187 ≤ t186) = true := decide_eq_true c17
                          clear c17
                          obtain rfl := Option.some.inj H
                          have p183 : 0 ≤ (x12_1 : Int) := of_decide_eq_true (by first | (with_reducible assumption) | assumption)
                          have q183 : x12_1 < (l0.length : Int) := of_decide_eq_true (by first | (with_reducible assumption) | assumption)
                          obtain ⟨ad183, e183, hx183_0⟩ := Kd.at_int HR0.out x12_1 p183 q183
                          cases e183
                          replace hx183_0 := (HB.out.cell (World.block_lt_of_cell? w _ hx183_0)).trans hx183_0
                          replace p183 := eq_true p183
                          replace q183 := eq_true q183
                          go_wp2_with (first | ((with_reducible refine gate_callee (f := 34) rfl ?_); refine goesL_ (some 21) rfl rfl Try.func34 (by kernel_rfl) rfl #[.int .i64 (rd l0 x12_1), .int .i64 (wrap64 (-a1)), .int .i64 a1] rfl (by (try simp only [List.map_toArray, List.map_cons, List.map_nil]); first | done | rfl | (simp only [List.length_drop, List.length_take]; rfl)) ?_; (with_reducible refine (impl_in.calls (rd l0 x12_1) (wrap64 (-a1)) a1 true _ A8.out).mono ?_); rintro e w' ⟨rfl, ⟨nd, rfl⟩⟩; refine ⟨_, rfl, ?_⟩; have p185 : 0 ≤ ((ji12) : Int) := of_decide_eq_true (by first | (with_reducible assumption) | assumption); have q185 : (ji12) < (l0.length : Int) := of_decide_eq_true (by first | (with_reducible assumption) | assumption); obtain ⟨ad185, e185, hx185_0⟩ := Kd.at_int HR0.out (ji12) p185 q185; obtain rfl : ad183 = ad185 := (by injection e185); replace hx185_0 := (HB.out.cell (World.block_lt_of_cell? w _ hx185_0)).trans hx185_0; replace p185 := eq_true p185; replace q185 := eq_true q185) | (go_at_call 60; (with_reducible refine (impl_atomOf.calls (rd l0 (ji12)) t186 _ A15.out).mono ?_); rintro e w18 ⟨rfl, hb⟩; have n0_ := Aside0.mk (below_step (by repeat (first | (with_reducible first | exact HB.out | apply below_alloc | apply pw_below_drewN | apply below_drew1) | exact HB.out)) hb); clear HB; have HB := n0_; clear n0_; (try clear hb); (try clear hb2); (try clear hk); (try clear hi)) | (go_at_call 60; (with_reducible refine (impl_atomOf.calls (rd l0 x12_1) t187 _ A16.out).mono ?_); rintro e w19 ⟨rfl, hb⟩; have n0_ := Aside0.mk (below_step (by repeat (first | (with_reducible first | exact HB.out | apply below_alloc | apply pw_below_drewN | apply below_drew1) | exact HB.out)) hb); clear HB; have HB := n0_; clear n0_; (try clear hb); (try clear hb2); (try clear hk); (try clear hi)))
                          go_ret
                          exact ⟨by first | rfl | (simp [errW_none, errW_some] <;> rfl) | (simp only [← hji12]; first | rfl | (simp [errW_none, errW_some] <;> rfl)) | (simp [*, errW_none, errW_some] <;> rfl), by repeat (first | (with_reducible first | exact HB.out | apply below_alloc | apply pw_below_drewN | apply below_drew1) | exact HB.out)⟩
                        · rw [if_neg c17] at H
                          have c17b0 : decide (t187 ≤ t186) = false := decide_eq_false c17
                          clear c17
                          have H' := Aside0.mk H
                          clear H
                          have p183 : 0 ≤ (x12_1 : Int) := of_decide_eq_true (by first | (with_reducible assumption) | assumption)
                          have q183 : x12_1 < (l0.length : Int) := of_decide_eq_true (by first | (with_reducible assumption) | assumption)
                          obtain ⟨ad183, e183, hx183_0⟩ := Kd.at_int HR0.out x12_1 p183 q183
                          cases e183
                          replace hx183_0 := (HB.out.cell (World.block_lt_of_cell? w _ hx183_0)).trans hx183_0
                          replace p183 := eq_true p183
                          replace q183 := eq_true q183
                          go_wp2_with (first | ((with_reducible refine gate_callee (f := 34) rfl ?_); refine goesL_ (some 21) rfl rfl Try.func34 (by kernel_rfl) rfl #[.int .i64 (rd l0 x12_1), .int .i64 (wrap64 (-a1)), .int .i64 a1] rfl (by (try simp only [List.map_toArray, List.map_cons, List.map_nil]); first | done | rfl | (simp only [List.length_drop, List.length_take]; rfl)) ?_; (with_reducible refine (impl_in.calls (rd l0 x12_1) (wrap64 (-a1)) a1 true _ A8.out).mono ?_); rintro e w' ⟨rfl, ⟨nd, rfl⟩⟩; refine ⟨_, rfl, ?_⟩; have p185 : 0 ≤ ((ji12) : Int) := of_decide_eq_true (by first | (with_reducible assumption) | assumption); have q185 : (ji12) < (l0.length : Int) := of_decide_eq_true (by first | (with_reducible assumption) | assumption); obtain ⟨ad185, e185, hx185_0⟩ := Kd.at_int HR0.out (ji12) p185 q185; obtain rfl : ad183 = ad185 := (by injection e185); replace hx185_0 := (HB.out.cell (World.block_lt_of_cell? w _ hx185_0)).trans hx185_0; replace p185 := eq_true p185; replace q185 := eq_true q185) | (go_at_call 60; (with_reducible refine (impl_atomOf.calls (rd l0 (ji12)) t186 _ A15.out).mono ?_); rintro e w20 ⟨rfl, hb⟩; have n0_ := Aside0.mk (below_step (by repeat (first | (with_reducible first | exact HB.out | apply below_alloc | apply pw_below_drewN | apply below_drew1) | exact HB.out)) hb); clear HB; have HB := n0_; clear n0_; (try clear hb); (try clear hb2); (try clear hk); (try clear hi)) | (go_at_call 60; (with_reducible refine (impl_atomOf.calls (rd l0 x12_1) t187 _ A16.out).mono ?_); rintro e w21 ⟨rfl, hb⟩; have n0_ := Aside0.mk (below_step (by repeat (first | (with_reducible first | exact HB.out | apply below_alloc | apply pw_below_drewN | apply below_drew1) | exact HB.out)) hb); clear HB; have HB := n0_; clear n0_; (try clear hb); (try clear hb2); (try clear hk); (try clear hi)))
                          go_roundg k1
                          case measure => have := HK1.out; omega
                          case rel => exact ⟨(wrap64 (x12_1 + 1)), (by first | rfl | (simp; done) | (simp [*]; done)), H', ⟨by have := HK1.out; omega⟩, ⟨by repeat (first | (with_reducible first | exact HB.out | apply below_alloc | apply pw_below_drewN | apply below_drew1) | exact HB.out)⟩⟩
                      · rw [if_neg c14] at H
                        exact absurd H (by simp)
                    · rw [if_neg c13] at H
                      exact absurd H (by simp)
                  · rw [if_neg c11] at H
                    have c11b0 : decide (0 < x12_1) = false := decide_eq_false c11
                    clear c11
                    have H' := Aside0.mk H
                    clear H
                    have p183 : 0 ≤ (x12_1 : Int) := of_decide_eq_true (by first | (with_reducible assumption) | assumption)
                    have q183 : x12_1 < (l0.length : Int) := of_decide_eq_true (by first | (with_reducible assumption) | assumption)
                    obtain ⟨ad183, e183, hx183_0⟩ := Kd.at_int HR0.out x12_1 p183 q183
                    cases e183
                    replace hx183_0 := (HB.out.cell (World.block_lt_of_cell? w _ hx183_0)).trans hx183_0
                    replace p183 := eq_true p183
                    replace q183 := eq_true q183
                    go_wp2_with (first | ((with_reducible refine gate_callee (f := 34) rfl ?_); refine goesL_ (some 21) rfl rfl Try.func34 (by kernel_rfl) rfl #[.int .i64 (rd l0 x12_1), .int .i64 (wrap64 (-a1)), .int .i64 a1] rfl (by (try simp only [List.map_toArray, List.map_cons, List.map_nil]); first | done | rfl | (simp only [List.length_drop, List.length_take]; rfl)) ?_; (with_reducible refine (impl_in.calls (rd l0 x12_1) (wrap64 (-a1)) a1 true _ A8.out).mono ?_); rintro e w' ⟨rfl, ⟨nd, rfl⟩⟩; refine ⟨_, rfl, ?_⟩))
                    go_roundg k1
                    case measure => have := HK1.out; omega
                    case rel => exact ⟨(wrap64 (x12_1 + 1)), (by first | rfl | (simp; done) | (simp [*]; done)), H', ⟨by have := HK1.out; omega⟩, ⟨by repeat (first | (with_reducible first | exact HB.out | apply below_alloc | apply pw_below_drewN | apply below_drew1) | exact HB.out)⟩⟩
              · replace c9 := Bool.eq_false_iff.mpr c9
                subst c9
                have H1 : (some false) = some r := by rw [if_neg (show ¬ (false = true) by decide)] at H; exact H
                clear H
                have H := H1
                clear H1
                obtain rfl := Option.some.inj H
                have p183 : 0 ≤ (x12_1 : Int) := of_decide_eq_true (by first | (with_reducible assumption) | assumption)
                have q183 : x12_1 < (l0.length : Int) := of_decide_eq_true (by first | (with_reducible assumption) | assumption)
                obtain ⟨ad183, e183, hx183_0⟩ := Kd.at_int HR0.out x12_1 p183 q183
                cases e183
                replace hx183_0 := (HB.out.cell (World.block_lt_of_cell? w _ hx183_0)).trans hx183_0
                replace p183 := eq_true p183
                replace q183 := eq_true q183
                go_wp2_with (first | ((with_reducible refine gate_callee (f := 34) rfl ?_); refine goesL_ (some 21) rfl rfl Try.func34 (by kernel_rfl) rfl #[.int .i64 (rd l0 x12_1), .int .i64 (wrap64 (-a1)), .int .i64 a1] rfl (by (try simp only [List.map_toArray, List.map_cons, List.map_nil]); first | done | rfl | (simp only [List.length_drop, List.length_take]; rfl)) ?_; (with_reducible refine (impl_in.calls (rd l0 x12_1) (wrap64 (-a1)) a1 false _ A8.out).mono ?_); rintro e w' ⟨rfl, ⟨nd, rfl⟩⟩; refine ⟨_, rfl, ?_⟩))
                go_ret
                exact ⟨by first | rfl | (simp [errW_none, errW_some] <;> rfl) | (simp [*, errW_none, errW_some] <;> rfl), by repeat (first | (with_reducible first | exact HB.out | apply below_alloc | apply pw_below_drewN | apply below_drew1) | exact HB.out)⟩
            · rw [if_neg c7] at H
              exact absurd H (by simp)
          · rw [if_neg c6] at H
            exact absurd H (by simp)
        · rw [if_neg c5] at H
          have c5b0 : decide (x12_1 < (l0.length : Int)) = false := decide_eq_false c5
          clear c5
          obtain rfl := Option.some.inj H
          go_wp2
          go_ret
          exact ⟨by first | rfl | (simp [errW_none, errW_some] <;> rfl) | (simp [*, errW_none, errW_some] <;> rfl), by repeat (first | (with_reducible first | exact HB.out | apply below_alloc | apply pw_below_drewN | apply below_drew1) | exact HB.out)⟩
  · replace c4 := Bool.eq_false_iff.mpr c4
    subst c4
    have H1 : (some false) = some r := by rw [if_neg (show ¬ (false = true) by decide)] at H; exact H
    clear H
    have H := H1
    clear H1
    obtain rfl := Option.some.inj H
    go_enter Try.func37, Try.ntmps37
    go_wp2_with (first | ((with_reducible refine gate_callee (f := 34) rfl ?_); refine goesL_ (some 8) rfl rfl Try.func34 (by kernel_rfl) rfl #[.int .i64 a1, .int .i64 0, .int .i64 700] rfl (by (try simp only [List.map_toArray, List.map_cons, List.map_nil]); first | done | rfl | (simp only [List.length_drop, List.length_take]; rfl)) ?_; (with_reducible refine (impl_in.calls a1 0 700 false _ A3.out).mono ?_); rintro e w' ⟨rfl, ⟨nd, rfl⟩⟩; refine ⟨_, rfl, ?_⟩))
    go_ret
    exact ⟨by first | rfl | (simp [errW_none, errW_some] <;> rfl) | (simp [*, errW_none, errW_some] <;> rfl), by repeat (first | (with_reducible first | exact HB.out | apply below_alloc | apply pw_below_drewN | apply below_drew1) | exact HB.out)⟩

-- NOT PRINTED: function 36 (impl_ClausesValid_1)

/-! ### impl_ClausesValid: function 12 (by hand) -/
set_option maxHeartbeats 4000000 in
set_option maxRecDepth 100000 in
theorem clo_59_36 (cap : Value) (n : Nat) (vals : Int → Value) (p : Int → Bool) (A0 : Option Addr) (c0 : Nat) (w : World) (hmax : n ≤ 9223372036854775807)
    (hcell : ∀ x : Int, 0 ≤ x → x < n → ∃ ad, A0 = some ad ∧ w.cell? (ad.add x.toNat) = some (vals x))
    (hg : ∀ x : Int, 0 ≤ x → x < n → ∀ W, Below w.heap.size w W → Calls Try.prog 36 #[vals x, cap] W fun e W' => e = .returned (.bool (p x)) ∧ Below W.heap.size W W') :
    Calls Try.prog 59 #[.slice A0 n c0, .func (.func 36) #[] #[cap]] w fun e w' => ∃ j : Int, e = .returned (.int .i64 j) ∧ ((0 ≤ j ∧ ∃ x : Int, 0 ≤ x ∧ x < n ∧ p x = true) ∨ (j = -1 ∧ ∀ x : Int, 0 ≤ x → x < n → p x = false)) ∧ Below w.heap.size w w' := by
  have HC := Aside0.mk hcell
  have HG := Aside0.mk hg
  clear hcell hg
  go_enter Try.func59, Try.ntmps59
  go_wp2
  go_loopg [8] (n + 1) (fun kq v8 w' => ∃ x : Int, v8 = .int .i64 x ∧ Aside0 (0 ≤ x ∧ x ≤ n ∧ (kq : Int) + x = n + 1) ∧ Aside0 (∀ y : Int, 0 ≤ y → y < x → p y = false) ∧ Aside0 (Below w.heap.size w w'))
  case atStart => exact ⟨0, rfl, ⟨by omega, by omega, by omega⟩, ⟨fun y h0 h1 => by omega⟩, ⟨Below.refl _ _⟩⟩
  case round =>
    obtain ⟨x, rfl, ⟨h0, h1, hk⟩, HF, HB⟩ := hrel
    by_cases c3 : x < (n : Int)
    · have c3b0 : decide (x < (n : Int)) = true := decide_eq_true c3
      obtain ⟨ad, e168, hx⟩ := HC.out x h0 c3
      cases e168
      replace hx := (HB.out.cell (World.block_lt_of_cell? w _ hx)).trans hx
      have p168 := eq_true h0
      have q168 := eq_true c3
      by_cases hp : p x = true
      · have HG1 := HG.out x h0 c3
        rw [hp] at HG1
        have HG2 := Aside0.mk HG1
        clear HG1
        go_wp2_with (first | (go_at_call 36; refine (HG2.out _ HB.out).mono ?_; rintro e w' ⟨rfl, hb⟩; have HB2 := Aside0.mk (below_step HB.out hb); clear hb))
        go_ret
        exact ⟨_, rfl, .inl ⟨h0, x, h0, c3, hp⟩, HB2.out⟩
      · replace hp := Bool.eq_false_iff.mpr hp
        have HG1 := HG.out x h0 c3
        rw [hp] at HG1
        have HG2 := Aside0.mk HG1
        clear HG1
        have hw : wrap64 (x + 1) = x + 1 := by unfold wrap64; omega
        go_wp2_with (first | (go_at_call 36; refine (HG2.out _ HB.out).mono ?_; rintro e w' ⟨rfl, hb⟩; have HB2 := Aside0.mk (below_step HB.out hb); clear hb))
        go_roundg (gk - 1)
        case measure => omega
        case rel => exact ⟨_, rfl, ⟨by (try rw [hw]); omega, by (try rw [hw]); omega, by (try rw [hw]); omega⟩, ⟨fun y hy0 hy1 => by (try rw [hw] at hy1); exact (if e : y = x then by rw [e]; exact hp else HF.out y hy0 (by omega))⟩, HB2⟩
    · have c3b0 : decide (x < (n : Int)) = false := decide_eq_false c3
      go_wp2
      go_ret
      exact ⟨_, rfl, .inr ⟨rfl, fun y hy0 hy1 => HF.out y hy0 (by omega)⟩, HB.out⟩
set_option maxHeartbeats 4000000 in
set_option maxRecDepth 100000 in
theorem has_35_36 (cap : Value) (n : Nat) (vals : Int → Value) (p : Int → Bool) (A0 : Option Addr) (c0 : Nat) (w : World) (hmax : n ≤ 9223372036854775807)
    (hcell : ∀ x : Int, 0 ≤ x → x < n → ∃ ad, A0 = some ad ∧ w.cell? (ad.add x.toNat) = some (vals x))
    (hg : ∀ x : Int, 0 ≤ x → x < n → ∀ W, Below w.heap.size w W → Calls Try.prog 36 #[vals x, cap] W fun e W' => e = .returned (.bool (p x)) ∧ Below W.heap.size W W') :
    Calls Try.prog 35 #[.slice A0 n c0, .func (.func 36) #[] #[cap]] w fun e w' => ∃ b : Bool, e = .returned (.bool b) ∧ (b = true ↔ ∃ x : Int, 0 ≤ x ∧ x < n ∧ p x = true) ∧ Below w.heap.size w w' := by
  go_enter Try.func35, Try.ntmps35
  go_wp2_with (first | (go_at_call 59; refine (clo_59_36 cap n vals p A0 c0 _ hmax hcell hg).mono ?_; rintro e w' ⟨j, rfl, hj, hb⟩; have HJ := Aside0.mk hj; have HB := Aside0.mk hb; clear hj hb))
  go_ret
  refine ⟨_, rfl, ?_, HB.out⟩
  rcases HJ.out with ⟨h1, h2⟩ | ⟨h1, h2⟩
  · exact ⟨fun _ => h2, fun _ => decide_eq_true h1⟩
  · subst h1
    refine ⟨fun h => absurd h (by decide), fun ⟨x, h3, h4, h5⟩ => ?_⟩
    rw [h2 x h3 h4] at h5
    cases h5
def impl_ClausesValid.f (k : Nat) (a0_0 : Int) (l0_1 : List (List Int)) : Option (Bool) := (impl_in.f a0_0 0 700).bind fun t => if t = true then (if (l0_1.length : Int) ≤ 2500 then Go.Proofs.YthcegdgffdppgacX.allO (fun c => impl_ClauseValid.f k c a0_0) l0_1 else some false) else some false
theorem impl_ClausesValid.mono : ∀ a0 a1 k, LeO (impl_ClausesValid.f k a0 a1) (impl_ClausesValid.f (k + 1) a0 a1) := by
  intro a0 a1 k
  unfold impl_ClausesValid.f
  exact LeO.bind (LeO.refl _) (fun _ => LeO.ite (LeO.ite (Go.Proofs.YthcegdgffdppgacX.allO_mono (fun c => impl_ClauseValid.mono _ _ _) _) (LeO.refl _)) (LeO.refl _))
set_option maxHeartbeats 4000000 in
set_option maxRecDepth 100000 in
theorem impl_ClausesValid.clo (k : Nat) (g : Nat) (a : Int) (A : Option Addr) (c : Nat) (l : List Int) (b : Bool) (w : World) (hbox : w.cell? ⟨g, 0, none⟩ = some (.int .i64 a)) (hr : Kd.C (Kd.int .i64) w A l.length l) (hc : l.length ≤ c) (h : impl_ClauseValid.f k l a = some b) :
    Calls Try.prog 36 #[.slice A l.length c, .pointer (some ⟨g, 0, none⟩)] w fun e w' => e = .returned (.bool (!b)) ∧ Below w.heap.size w w' := by
  have HR := Aside0.mk hr
  have HC := Aside0.mk hc
  have HH := Aside0.mk h
  clear hr hc h
  go_enter Try.func36, Try.ntmps36
  go_wp2_with (first | (go_at_call 37; refine (impl_ClauseValid.calls k A c l a b _ HR.out HC.out HH.out).mono ?_; rintro e w' ⟨rfl, hb⟩; have HB := Aside0.mk hb; clear hb))
  go_ret
  exact ⟨rfl, HB.out⟩
set_option maxHeartbeats 4000000 in
set_option maxRecDepth 100000 in
theorem impl_ClausesValid.calls (k : Nat) (a0_0 : Int) (A0_1 : Option Addr) (c0_1 : Nat) (l0_1 : List (List Int)) (r : Bool) (w : World) (hr0_1 : Kd.C (Kd.slice 3 (Kd.int .i64)) w A0_1 l0_1.length l0_1) (hc0_1 : l0_1.length ≤ c0_1) (h : impl_ClausesValid.f k a0_0 l0_1 = some r) :
    Calls Try.prog 12 #[.agg #[.int .i64 a0_0, .slice A0_1 l0_1.length c0_1]] w fun e w' => e = .returned (.bool r) ∧ Below w.heap.size w w' := by
  have HR := Aside0.mk hr0_1
  have HC := Aside0.mk hc0_1
  clear hr0_1 hc0_1
  unfold impl_ClausesValid.f at h
  obtain ⟨t, ht, h⟩ := Option.bind_eq_some_iff.mp h
  have HT := Aside0.mk ht
  have H := Aside0.mk h
  clear ht h
  have hmf : ∀ (fn : Fn) (first cap : Array Value) (w : World), (Instr.makeFunc fn first cap).run Try.prog w = .ok (.func fn first cap) w := fun _ _ _ _ => rfl
  cases t with
  | false =>
    have h := H.out
    rw [if_neg (by decide)] at h
    obtain rfl := Option.some.inj h
    clear h H
    go_enter Try.func12, Try.ntmps12
    go_wp2_with (first | ((with_reducible refine gate_dst (N := 1) rfl ?_); refine box_event ?hg (N := 1) ?hd (cs := #[.int .i64 a0_0, .slice A0_1 l0_1.length c0_1]) (t := 27) ?hr ?_; (case hd => rfl); (case hg => rfl); (case hr => first | (go_simp; done) | (go_simp; rfl)); intro gb hg w5 hbox hb; have HB := Aside0.mk hb; have hcz0 : w5.cell? ⟨gb, 0, none⟩ = some (.int .i64 a0_0) := (blk_cell hbox 0).trans rfl; have hcz1 : w5.cell? ⟨gb, 1, none⟩ = some (.slice A0_1 l0_1.length c0_1) := (blk_cell hbox 1).trans rfl; clear hb hg hbox) | ((with_reducible refine gate_callee (f := 34) rfl ?_); refine goesL_ (some 5) rfl rfl Try.func34 (by kernel_rfl) rfl #[.int .i64 a0_0, .int .i64 0, .int .i64 700] rfl (by (try simp only [List.map_toArray, List.map_cons, List.map_nil]); first | done | rfl) ?_; (with_reducible refine (impl_in.calls a0_0 0 700 false _ HT.out).mono ?_); rintro e w' ⟨rfl, ⟨nd, rfl⟩⟩; refine ⟨_, rfl, ?_⟩))
    go_ret
    exact ⟨rfl, by repeat (first | exact HB.out | apply pw_below_drewN)⟩
  | true =>
    have h := H.out
    rw [if_pos rfl] at h
    clear H
    by_cases hl : (l0_1.length : Int) ≤ 2500
    · rw [if_pos hl] at h
      obtain ⟨h1, rfl⟩ := Go.Proofs.YthcegdgffdppgacX.allO_some h
      have HA := Aside0.mk h1
      clear h1 h
      have hlb : decide ((l0_1.length : Int) ≤ 2500) = true := decide_eq_true hl
      obtain ⟨vals, hvals⟩ := Go.Proofs.YthcegdgffdppgacX.rows_vals HR.out
      have HV := Aside0.mk hvals
      clear hvals
      have hmax : l0_1.length ≤ 9223372036854775807 := by omega
      go_enter Try.func12, Try.ntmps12
      go_wp2_with (first | ((with_reducible refine gate_dst (N := 1) rfl ?_); refine box_event ?hg (N := 1) ?hd (cs := #[.int .i64 a0_0, .slice A0_1 l0_1.length c0_1]) (t := 27) ?hr ?_; (case hd => rfl); (case hg => rfl); (case hr => first | (go_simp; done) | (go_simp; rfl)); intro gb hg w5 hbox hb; have HB := Aside0.mk hb; have hcz0 : w5.cell? ⟨gb, 0, none⟩ = some (.int .i64 a0_0) := (blk_cell hbox 0).trans rfl; have hcz1 : w5.cell? ⟨gb, 1, none⟩ = some (.slice A0_1 l0_1.length c0_1) := (blk_cell hbox 1).trans rfl; clear hb hg hbox) | ((with_reducible refine gate_callee (f := 34) rfl ?_); refine goesL_ (some 5) rfl rfl Try.func34 (by kernel_rfl) rfl #[.int .i64 a0_0, .int .i64 0, .int .i64 700] rfl (by (try simp only [List.map_toArray, List.map_cons, List.map_nil]); first | done | rfl) ?_; (with_reducible refine (impl_in.calls a0_0 0 700 true _ HT.out).mono ?_); rintro e w' ⟨rfl, ⟨nd, rfl⟩⟩; refine ⟨_, rfl, ?_⟩) | (go_at_call 35; refine (has_35_36 (.pointer (some ⟨gb, 0, none⟩)) l0_1.length vals (fun x => !(impl_ClauseValid.f k (l0_1.getD x.toNat []) a0_0).getD false) A0_1 c0_1 _ hmax ?aC ?aG).mono ?_; (case aC => intro x h0 h1; obtain ⟨⟨ad, e, hc⟩, _⟩ := HV.out x h0 h1; exact ⟨ad, e, ((pw_below_drewN HB.out _).cell (World.block_lt_of_cell? w _ hc)).trans hc⟩); (case aG => intro x h0 h1 W hW; obtain ⟨_, A, c, e, hc, hC⟩ := HV.out x h0 h1; rw [e]; have hW2 := below_step (pw_below_drewN HB.out nd) hW; have hbx : W.cell? ⟨gb, 0, none⟩ = some (.int .i64 a0_0) := ((hW.cell (World.block_lt_of_cell? _ _ (show (w5.drewN nd).cell? ⟨gb, 0, none⟩ = _ from hcz0))).trans hcz0); exact impl_ClausesValid.clo k gb a0_0 A c _ _ W hbx (Kd.C_below hC hW2) hc (HA.out _ (Go.Proofs.YthcegdgffdppgacX.getD_mem' h0 h1))); rintro e w' ⟨b, rfl, hb, hbel⟩; have HE := Aside0.mk hb; have HB2 := Aside0.mk (below_step (pw_below_drewN HB.out nd) hbel); clear hb hbel))
      go_ret
      exact ⟨(show Ending.returned (.bool (!b)) = _ from congrArg (fun b => Ending.returned (Value.bool b)) (Go.Proofs.YthcegdgffdppgacX.not_any HE.out)), HB2.out⟩
    · rw [if_neg hl] at h
      obtain rfl := Option.some.inj h
      clear h
      have hlb : decide ((l0_1.length : Int) ≤ 2500) = false := decide_eq_false hl
      go_enter Try.func12, Try.ntmps12
      go_wp2_with (first | ((with_reducible refine gate_dst (N := 1) rfl ?_); refine box_event ?hg (N := 1) ?hd (cs := #[.int .i64 a0_0, .slice A0_1 l0_1.length c0_1]) (t := 27) ?hr ?_; (case hd => rfl); (case hg => rfl); (case hr => first | (go_simp; done) | (go_simp; rfl)); intro gb hg w5 hbox hb; have HB := Aside0.mk hb; have hcz0 : w5.cell? ⟨gb, 0, none⟩ = some (.int .i64 a0_0) := (blk_cell hbox 0).trans rfl; have hcz1 : w5.cell? ⟨gb, 1, none⟩ = some (.slice A0_1 l0_1.length c0_1) := (blk_cell hbox 1).trans rfl; clear hb hg hbox) | ((with_reducible refine gate_callee (f := 34) rfl ?_); refine goesL_ (some 5) rfl rfl Try.func34 (by kernel_rfl) rfl #[.int .i64 a0_0, .int .i64 0, .int .i64 700] rfl (by (try simp only [List.map_toArray, List.map_cons, List.map_nil]); first | done | rfl) ?_; (with_reducible refine (impl_in.calls a0_0 0 700 true _ HT.out).mono ?_); rintro e w' ⟨rfl, ⟨nd, rfl⟩⟩; refine ⟨_, rfl, ?_⟩))
      go_ret
      exact ⟨rfl, by repeat (first | exact HB.out | apply pw_below_drewN)⟩

/-! ### impl_clone_int: function 61 (by hand) -/
def impl_clone_int.f (l0 : List Int) : Option (List Int) := if l0.length ≤ 35184372088832 then some l0 else none
set_option maxHeartbeats 4000000 in
set_option maxRecDepth 100000 in
theorem impl_clone_int.calls (A0 : Option Addr) (c0 : Nat) (l0 : List Int) (r : List Int) (w : World) (hr0 : Kd.C (Kd.int .i64) w A0 l0.length l0) (hc0 : l0.length ≤ c0) (h : impl_clone_int.f l0 = some r) :
    Calls Try.prog 61 #[.slice A0 l0.length c0] w fun e w' => ∃ v0_ : Value, e = .returned v0_ ∧ Kd.R (Kd.int .i64) 3 w' w.heap.size (fun _ => True) v0_ r ∧ Below w.heap.size w w' := by
  unfold impl_clone_int.f at h
  by_cases hlim : l0.length ≤ 35184372088832
  · rw [if_pos hlim] at h
    obtain rfl := Option.some.inj h
    clear h
    have HR0 := Aside0.mk hr0
    have HC0 := Aside0.mk hc0
    clear hr0 hc0
    by_cases hz : l0.length = 0
    · obtain rfl := List.eq_nil_of_length_eq_zero hz
      go_enter Try.func61, Try.ntmps61
      go_wp2
      go_ret
      exact ⟨_, rfl, Kd.R_nil _ _ _ _ _, Below.refl _ _⟩
    · have c1 : ((l0.length : Int) == 0) = false := beq_eq_false_iff_ne.mpr (by omega)
      have c2 : (l0.length == 0) = false := by simpa using hz
      have c3 : ¬ (l0 = []) := fun h_ => hz (by rw [h_]; rfl)
      have c4 : 0 < l0.length := by omega
      go_enter Try.func61, Try.ntmps61
      go_wp2_with (first | ((with_reducible refine gate_dst (N := 9) rfl ?_); refine Kd.R_make (Kd.int .i64) _ 3 rfl (N := 9) rfl 31 _ _ rfl (l0.length : Int) rfl rfl Try.underlying31 (.int .i64 0) 8 info3 rfl (by decide) (by omega) 0 (ok := fun _ => True) (okp := fun _ => True) rfl (fun _ hk => hk) trivial (by omega) (by have := hlim; simp only [Int.toNat_natCast]; omega) (Below.refl _ _) (Nat.le_refl _) ?_; intro v1 w1 ho hb hg_ hnew_; clear hg_ hnew_; have HO := Aside0.mk ho; have HB := Aside0.mk hb; clear ho hb) | ((with_reducible refine gate_dst (N := 12) rfl ?_); refine Go.Proofs.YthcegdgffdppgacX.R_copy (Kd.int .i64) _ 3 rfl (N := 12) rfl (.tmp 10) (.tmp 11) 31 31 rfl Try.underlying31 (by kernel_rfl) (by decide) rfl rfl HO.out (Kd.C_below HR0.out HB.out) (by rw [List.length_replicate]; omega) c4 (fun _ _ _ _ h_ => h_) HB.out ?_; intro w2 ho hb; have HO2 := Aside0.mk ho; have HB2 := Aside0.mk hb; clear ho hb))
      go_ret
      exact ⟨_, rfl, HO2.out, HB2.out⟩
  · rw [if_neg hlim] at h
    exact absurd h (by simp)

/-! ### impl_listOf: function 39 -/
def impl_listOf.l0 : Nat → List Int → List Bool → Int → Int → Option (List Int)
  | 0, _, _, _, _ => none
  | k + 1, x3, x6, x7, x8 => if x8 < x7 then (if 0 ≤ x8 then (if x8 < (x6.length : Int) then (if rdOf false x6 x8 = true then (if x3.length < 17592186044416 then (impl_listOf.l0 k (x3 ++ [x8]) x6 x7 (wrap64 (x8 + 1))) else (none)) else (impl_listOf.l0 k x3 x6 x7 (wrap64 (x8 + 1)))) else (none)) else (none)) else ((impl_clone_int.f x3).bind fun t192 => (some t192))
def impl_listOf.f (k : Nat) (l0 : List Bool) : Option (List Int) := impl_listOf.l0 k ([] : List Int) l0 (l0.length : Int) 0
theorem impl_listOf.mono_l : ∀ k, (∀ y0 y1 y2 y3, LeO (impl_listOf.l0 k y0 y1 y2 y3) (impl_listOf.l0 (k + 1) y0 y1 y2 y3))
  | 0 => fun _ _ _ _ r h => by simp [impl_listOf.l0] at h
  | k + 1 => by
    have ih0 := impl_listOf.mono_l k
    · intro y0 y1 y2 y3
      unfold impl_listOf.l0
      repeat' first
      | (with_reducible exact ih0 _ _ _ _)
      | (with_reducible exact LeO.refl _)
      | (with_reducible exact LeO.none _)
      | (with_reducible refine LeO.ite ?_ ?_)
      | (with_reducible refine LeO.bind ?_ (fun _ => ?_))
      | exact ih0 _ _ _ _
      | exact LeO.none _
      | refine LeO.ite ?_ ?_
      | refine LeO.bind ?_ (fun _ => ?_)
theorem impl_listOf.mono : ∀ a0 k, LeO (impl_listOf.f k a0) (impl_listOf.f (k + 1) a0) := by
  intro a0 k
  have ih0 := impl_listOf.mono_l k
  unfold impl_listOf.f
  repeat' first
      | (with_reducible exact ih0 _ _ _ _)
      | (with_reducible exact LeO.refl _)
      | (with_reducible exact LeO.none _)
      | (with_reducible refine LeO.ite ?_ ?_)
      | (with_reducible refine LeO.bind ?_ (fun _ => ?_))
      | exact ih0 _ _ _ _
      | exact LeO.none _
      | refine LeO.ite ?_ ?_
      | refine LeO.bind ?_ (fun _ => ?_)
set_option maxHeartbeats 8000000 in
set_option maxRecDepth 100000 in
theorem impl_listOf.calls (k : Nat) (A0 : Option Addr) (c0 : Nat) (l0 : List Bool) (r : List Int) (w : World) (hr0 : Kd.C Kd.bool w A0 l0.length l0) (hc0 : l0.length ≤ c0) (h : impl_listOf.f k l0 = some r) :
    Calls Try.prog 39 #[.slice A0 l0.length c0] w fun e w' => ∃ v0_ : Value, e = .returned (v0_) ∧ Kd.R (Kd.int .i64) 3 w' w.heap.size (fun _ => True) v0_ r ∧ Below w.heap.size w w' := by
  have HR0 := Aside0.mk hr0
  have HC0 := Aside0.mk hc0
  clear hr0 hc0
  have HB := Aside0.mk (Below.refl w.heap.size w)
  have H : (impl_listOf.l0 k ([] : List Int) l0 (l0.length : Int) 0) = some r := h
  clear h
  have H' := Aside0.mk H
  clear H
  go_enter Try.func39, Try.ntmps39
  go_wp2
  go_loopg [3, 8] k (fun kq v3 v8 w' => ∃ (x3_1 : List Int) (x8_1 : Int), v8 = .int .i64 x8_1 ∧ Aside0 (impl_listOf.l0 kq x3_1 l0 (l0.length : Int) x8_1 = some r) ∧ Aside0 (kq ≤ k) ∧ Aside0 (Kd.R (Kd.int .i64) 3 w' w.heap.size (fun _ => True) v3 x3_1) ∧ Aside0 (Below w.heap.size w w'))
  case atStart => exact ⟨(([] : List Int)), (0), (by first | rfl | (simp; done) | (simp [*]; done)), H', ⟨Nat.le_refl _⟩, ⟨by first | exact Kd.R_nil _ _ _ _ _ | exact Kd.N_nil _ _ _ _ _ | exact Kd.V_nil _ _ _ _ _ | exact Kd.Q_nil _ _ _ _ _ | exact Kd.S_nil _ _ _ _ _⟩, ⟨by repeat (first | (with_reducible first | exact HB.out | apply below_alloc | apply pw_below_drewN | apply below_drew1) | exact HB.out)⟩⟩
  case round =>
    clear H'
    obtain ⟨x3_1, x8_1, rfl, HA, HK1, HO_3, HB⟩ := hrel
    cases gk with
    | zero => exact absurd HA.out (by simp [impl_listOf.l0])
    | succ k1 =>
      have H := HA.out
      clear HA
      simp only [impl_listOf.l0] at H
      by_cases c2 : x8_1 < (l0.length : Int)
      · rw [if_pos c2] at H
        have c2b0 : decide (x8_1 < (l0.length : Int)) = true := decide_eq_true c2
        clear c2
        by_cases c3 : 0 ≤ x8_1
        · rw [if_pos c3] at H
          have c3b0 : decide (0 ≤ x8_1) = true := decide_eq_true c3
          clear c3
          by_cases c4 : x8_1 < (l0.length : Int)
          · rw [if_pos c4] at H
            have c4b0 : decide (x8_1 < (l0.length : Int)) = true := decide_eq_true c4
            clear c4
            obtain ⟨bq5, hbq5⟩ : ∃ b_ : Bool, b_ = (rdOf false l0 x8_1) := ⟨_, rfl⟩
            replace H : (if bq5 = true then (if x3_1.length < 17592186044416 then (impl_listOf.l0 k1 (x3_1 ++ [x8_1]) l0 (l0.length : Int) (wrap64 (x8_1 + 1))) else (none)) else (impl_listOf.l0 k1 x3_1 l0 (l0.length : Int) (wrap64 (x8_1 + 1)))) = some r := by rw [← hbq5] at H; exact H
            have Nbq5 := Aside0.mk hbq5
            clear hbq5
            by_cases c6 : bq5 = true
            · subst c6
              have H1 : (if x3_1.length < 17592186044416 then (impl_listOf.l0 k1 (x3_1 ++ [x8_1]) l0 (l0.length : Int) (wrap64 (x8_1 + 1))) else (none)) = some r := by rw [if_pos rfl] at H; exact H
              clear H
              have H := H1
              clear H1
              by_cases c7 : x3_1.length < 17592186044416
              · rw [if_pos c7] at H
                have LMc7 := Aside0.mk c7
                clear c7
                obtain ⟨y189, hy189⟩ : ∃ y_ : List Int, y_ = (x3_1 ++ [x8_1]) := ⟨_, rfl⟩
                replace H : (impl_listOf.l0 k1 y189 l0 (l0.length : Int) (wrap64 (x8_1 + 1))) = some r := by first | (rw [hy189]; with_reducible exact H) | (have H2_ := (Option.bind_some _ _).symm.trans H; rw [hy189]; with_reducible exact H2_) | (have H2_ := (Option.bind_some _ _).symm.trans H; with_reducible exact H2_) | with_reducible exact H | (rw [hy189]; exact H) | exact H
                have Ny189 := Aside0.mk hy189
                clear hy189
                have H' := Aside0.mk H
                clear H
                have p188 : 0 ≤ (x8_1 : Int) := of_decide_eq_true (by first | (with_reducible assumption) | assumption)
                have q188 : x8_1 < (l0.length : Int) := of_decide_eq_true (by first | (with_reducible assumption) | assumption)
                obtain ⟨ad188, e188, hx188_0⟩ := Kd.at_bool HR0.out x8_1 p188 q188
                (try rw [← Nbq5.out] at hx188_0)
                cases e188
                replace hx188_0 := (HB.out.cell (World.block_lt_of_cell? w _ hx188_0)).trans hx188_0
                replace p188 := eq_true p188
                replace q188 := eq_true q188
                go_wp2_with (first | ((with_reducible refine gate_builtin (b := .append) (xs := #[.tmp 14, .tmp 16]) rfl ?_); at_builtin; refine Kd.R_append (Kd.int .i64) (w0 := w) w.heap.size rfl (.tmp 14) (.tmp 16) 31 3 (.int .i64 0) 8 rfl Try.underlying31 info3 rfl (by decide) (by omega) u3 x3_1 x8_1 [.int .i64 x8_1] (fun _ => True) (fun _ => False) rfl rfl ?aP (fun _ hk => hk.elim) ?aF ?aO ?aB ?aS ?aL ?_; (case aP => exact rfl); (case aB => exact (by repeat (first | (with_reducible first | exact HB.out | apply below_alloc | apply pw_below_drewN | apply below_drew1) | exact HB.out))); (case aF => exact (fun _ _ => trivial)); (case aO => exact (by (with_reducible repeat (first | apply Kd.R_alloc | apply Kd.R_drewN | apply Kd.R_drew)); exact HO_3.out)); (case aS => exact (below_size (by repeat (first | (with_reducible first | exact HB.out | apply below_alloc | apply pw_below_drewN | apply below_drew1) | exact HB.out)))); (case aL => have := LMc7.out; omega); intro v190 w8 ho hb hg hat; rw [← Ny189.out] at ho; have n0_ := Aside0.mk (hb); have n1_ := Aside0.mk (ho); clear HB; clear HO_3; have HB := n0_; have HO191 := n1_; clear n0_ n1_; clear ho hb hg hat))
                go_roundg k1
                case measure => have := HK1.out; omega
                case rel => exact ⟨(y189), (wrap64 (x8_1 + 1)), (by first | rfl | (simp; done) | (simp [*]; done)), H', ⟨by have := HK1.out; omega⟩, ⟨by (with_reducible repeat (first | apply Kd.R_alloc | apply Kd.R_drewN | apply Kd.R_drew)); exact HO191.out⟩, ⟨by repeat (first | (with_reducible first | exact HB.out | apply below_alloc | apply pw_below_drewN | apply below_drew1) | exact HB.out)⟩⟩
              · rw [if_neg c7] at H
                exact absurd H (by simp)
            · replace c6 := Bool.eq_false_iff.mpr c6
              subst c6
              have H1 : (impl_listOf.l0 k1 x3_1 l0 (l0.length : Int) (wrap64 (x8_1 + 1))) = some r := by rw [if_neg (show ¬ (false = true) by decide)] at H; exact H
              clear H
              have H := H1
              clear H1
              have H' := Aside0.mk H
              clear H
              have p188 : 0 ≤ (x8_1 : Int) := of_decide_eq_true (by first | (with_reducible assumption) | assumption)
              have q188 : x8_1 < (l0.length : Int) := of_decide_eq_true (by first | (with_reducible assumption) | assumption)
              obtain ⟨ad188, e188, hx188_0⟩ := Kd.at_bool HR0.out x8_1 p188 q188
              (try rw [← Nbq5.out] at hx188_0)
              cases e188
              replace hx188_0 := (HB.out.cell (World.block_lt_of_cell? w _ hx188_0)).trans hx188_0
              replace p188 := eq_true p188
              replace q188 := eq_true q188
              go_wp2
              go_roundg k1
              case measure => have := HK1.out; omega
              case rel => exact ⟨(x3_1), (wrap64 (x8_1 + 1)), (by first | rfl | (simp; done) | (simp [*]; done)), H', ⟨by have := HK1.out; omega⟩, ⟨by (with_reducible repeat (first | apply Kd.R_alloc | apply Kd.R_drewN | apply Kd.R_drew)); exact HO_3.out⟩, ⟨by repeat (first | (with_reducible first | exact HB.out | apply below_alloc | apply pw_below_drewN | apply below_drew1) | exact HB.out)⟩⟩
          · rw [if_neg c4] at H
            exact absurd H (by simp)
        · rw [if_neg c3] at H
          exact absurd H (by simp)
      · rw [if_neg c2] at H
        have c2b0 : decide (x8_1 < (l0.length : Int)) = false := decide_eq_false c2
        clear c2
        replace H := Option.bind_eq_some_iff.mp H
        obtain ⟨t192, A90, H⟩ := H
        replace H : (some t192) = some r := H
        have A9 := Aside0.mk A90
        clear A90
        obtain rfl := Option.some.inj H
        obtain ⟨Ao10, co10, eo10⟩ := Kd.R_slice HO_3.out
        subst eo10
        go_wp2_with (first | ((with_reducible refine gate_callee (f := 61) rfl ?_); refine goesL_ (some 20) rfl rfl Try.func61 (by kernel_rfl) rfl #[.slice Ao10 x3_1.length co10] rfl (by (try simp only [List.map_toArray, List.map_cons, List.map_nil]); first | done | rfl | (simp only [List.length_drop, List.length_take]; rfl)) ?_; (with_reducible refine (impl_clone_int.calls _ _ x3_1 t192 _ ?side1 ?side2 A9.out).mono ?_); (case side1 => repeat (first | exact (Kd.R_reads' HO_3.out).2.2 | (with_reducible refine Kd.C_alloc ?_ _) | (with_reducible refine Kd.C_drewN ?_ _) | (with_reducible refine Kd.C_drew ?_))); (case side2 => exact (Kd.R_reads' HO_3.out).2.1); rintro e w11 ⟨v193, rfl, ho0, hb⟩; refine ⟨_, rfl, ?_⟩; have n0_ := Aside0.mk (Kd.R_elder' (by (with_reducible repeat (first | apply Kd.R_alloc | apply Kd.R_drewN | apply Kd.R_drew)); exact HO_3.out) (Kd.R_base ho0) hb); have n1_ := Aside0.mk (Kd.R_lower (Kd.R_new' ho0 (Kd.R_lt (by (with_reducible repeat (first | apply Kd.R_alloc | apply Kd.R_drewN | apply Kd.R_drew)); exact HO_3.out))) (below_size (by repeat (first | (with_reducible first | exact HB.out | apply below_alloc | apply pw_below_drewN | apply below_drew1) | exact HB.out)))); have n2_ := Aside0.mk (below_step (by repeat (first | (with_reducible first | exact HB.out | apply below_alloc | apply pw_below_drewN | apply below_drew1) | exact HB.out)) hb); clear HO_3; clear HB; have HO_3 := n0_; have HO194 := n1_; have HB := n2_; clear n0_ n1_ n2_; (try clear hb); (try clear hb2); (try clear hk); (try clear hi); (try clear ho0)))
        go_ret
        exact ⟨_, by first | rfl | (simp [errW_none, errW_some] <;> rfl) | (simp [*, errW_none, errW_some] <;> rfl), by (with_reducible repeat (first | apply Kd.R_alloc | apply Kd.R_drewN | apply Kd.R_drew)); exact Kd.R_mono HO194.out (fun _ hk => trivial), by repeat (first | (with_reducible first | exact HB.out | apply below_alloc | apply pw_below_drewN | apply below_drew1) | exact HB.out)⟩

/-! ### impl_atomsIn: function 44 -/
mutual
def impl_atomsIn.l0 : Nat → List Bool → List (List Int) → Int → Int → Option (List Bool)
  | 0, _, _, _, _ => none
  | k + 1, x5, x13, x14, x15 => if x15 < x14 then (if 0 ≤ x15 then (if x15 < (x13.length : Int) then (impl_atomsIn.l1 k x5 x13 x14 x15 (rd_L1 x13 x15) ((rd_L1 x13 x15).length : Int) 0) else (none)) else (none)) else (some x5)
def impl_atomsIn.l1 : Nat → List Bool → List (List Int) → Int → Int → List Int → Int → Int → Option (List Bool)
  | 0, _, _, _, _, _, _, _ => none
  | k + 1, x5, x13, x14, x15, x19, x20, x21 => if x21 < x20 then (if 0 ≤ x21 then (if x21 < (x19.length : Int) then ((impl_atomOf.f (rd x19 x21)).bind fun t200 => (if 0 ≤ t200 then (if t200 < (x5.length : Int) then (impl_atomsIn.l1 k (x5.set (t200 : Int).toNat true) x13 x14 x15 x19 x20 (wrap64 (x21 + 1))) else (none)) else (none))) else (none)) else (none)) else (impl_atomsIn.l0 k x5 x13 x14 (wrap64 (x15 + 1)))
end
def impl_atomsIn.f (k : Nat) (a0 : Int) (l1 : List (List Int)) : Option (List Bool) := if 0 ≤ (wrap64 (a0 + 1)) then (if (wrap64 (a0 + 1) : Int).toNat ≤ 281474976710656 then (impl_atomsIn.l0 k (List.replicate (wrap64 (a0 + 1) : Int).toNat false) l1 (l1.length : Int) 0) else (none)) else (none)
theorem impl_atomsIn.mono_l : ∀ k, (∀ y0 y1 y2 y3, LeO (impl_atomsIn.l0 k y0 y1 y2 y3) (impl_atomsIn.l0 (k + 1) y0 y1 y2 y3)) ∧ (∀ y0 y1 y2 y3 y4 y5 y6, LeO (impl_atomsIn.l1 k y0 y1 y2 y3 y4 y5 y6) (impl_atomsIn.l1 (k + 1) y0 y1 y2 y3 y4 y5 y6))
  | 0 => ⟨fun _ _ _ _ r h => by simp [impl_atomsIn.l0] at h, fun _ _ _ _ _ _ _ r h => by simp [impl_atomsIn.l1] at h⟩
  | k + 1 => by
    obtain ⟨ih0, ih1⟩ := impl_atomsIn.mono_l k
    refine ⟨?_, ?_⟩
    · intro y0 y1 y2 y3
      unfold impl_atomsIn.l0
      repeat' first
      | (with_reducible exact ih0 _ _ _ _)
      | (with_reducible exact ih1 _ _ _ _ _ _ _)
      | (with_reducible exact LeO.refl _)
      | (with_reducible exact LeO.none _)
      | (with_reducible refine LeO.ite ?_ ?_)
      | (with_reducible refine LeO.bind ?_ (fun _ => ?_))
      | exact ih0 _ _ _ _
      | exact ih1 _ _ _ _ _ _ _
      | exact LeO.none _
      | refine LeO.ite ?_ ?_
      | refine LeO.bind ?_ (fun _ => ?_)
    · intro y0 y1 y2 y3 y4 y5 y6
      unfold impl_atomsIn.l1
      repeat' first
      | (with_reducible exact ih0 _ _ _ _)
      | (with_reducible exact ih1 _ _ _ _ _ _ _)
      | (with_reducible exact LeO.refl _)
      | (with_reducible exact LeO.none _)
      | (with_reducible refine LeO.ite ?_ ?_)
      | (with_reducible refine LeO.bind ?_ (fun _ => ?_))
      | exact ih0 _ _ _ _
      | exact ih1 _ _ _ _ _ _ _
      | exact LeO.none _
      | refine LeO.ite ?_ ?_
      | refine LeO.bind ?_ (fun _ => ?_)
theorem impl_atomsIn.mono : ∀ a0 a1 k, LeO (impl_atomsIn.f k a0 a1) (impl_atomsIn.f (k + 1) a0 a1) := by
  intro a0 a1 k
  obtain ⟨ih0, ih1⟩ := impl_atomsIn.mono_l k
  unfold impl_atomsIn.f
  repeat' first
      | (with_reducible exact ih0 _ _ _ _)
      | (with_reducible exact ih1 _ _ _ _ _ _ _)
      | (with_reducible exact LeO.refl _)
      | (with_reducible exact LeO.none _)
      | (with_reducible refine LeO.ite ?_ ?_)
      | (with_reducible refine LeO.bind ?_ (fun _ => ?_))
      | exact ih0 _ _ _ _
      | exact ih1 _ _ _ _ _ _ _
      | exact LeO.none _
      | refine LeO.ite ?_ ?_
      | refine LeO.bind ?_ (fun _ => ?_)
set_option maxHeartbeats 8000000 in
set_option maxRecDepth 100000 in
theorem impl_atomsIn.calls (k : Nat) (a0 : Int) (A1 : Option Addr) (c1 : Nat) (l1 : List (List Int)) (r : List Bool) (w : World) (hr1 : Kd.C (Kd.slice 3 (Kd.int .i64)) w A1 l1.length l1) (hc1 : l1.length ≤ c1) (h : impl_atomsIn.f k a0 l1 = some r) :
    Calls Try.prog 44 #[.int .i64 a0, .slice A1 l1.length c1] w fun e w' => ∃ v0_ : Value, e = .returned (v0_) ∧ Kd.R Kd.bool 4 w' w.heap.size (fun _ => True) v0_ r ∧ Below w.heap.size w w' := by
  have HR1 := Aside0.mk hr1
  have HC1 := Aside0.mk hc1
  clear hr1 hc1
  have HB := Aside0.mk (Below.refl w.heap.size w)
  have H : (if 0 ≤ (wrap64 (a0 + 1)) then (if (wrap64 (a0 + 1) : Int).toNat ≤ 281474976710656 then (impl_atomsIn.l0 k (List.replicate (wrap64 (a0 + 1) : Int).toNat false) l1 (l1.length : Int) 0) else (none)) else (none)) = some r := h
  clear h
  obtain ⟨ji3, hji3⟩ : ∃ j_ : Int, (wrap64 (a0 + 1)) = j_ := ⟨_, rfl⟩
  replace H : (if 0 ≤ (ji3) then (if (ji3 : Int).toNat ≤ 281474976710656 then (impl_atomsIn.l0 k (List.replicate (ji3 : Int).toNat false) l1 (l1.length : Int) 0) else (none)) else (none)) = some r := by first | (rw [hji3] at H; exact H) | (simp only [hji3] at H ⊢; exact H)
  have hji3w : (IntKind.i64.wrap (a0 + 1)) = ji3 := (i64_w _).trans hji3
  by_cases c4 : 0 ≤ (ji3)
  · rw [if_pos c4] at H
    have c4b0 := eq_true c4
    have c4b1 : decide (0 ≤ (ji3)) = true := decide_eq_true c4
    clear c4
    by_cases c5 : (ji3 : Int).toNat ≤ 281474976710656
    · rw [if_pos c5] at H
      have c5b0 := eq_true c5
      have c5b1 : decide ((ji3 : Int).toNat ≤ 281474976710656) = true := decide_eq_true c5
      clear c5
      obtain ⟨y195, hy195⟩ : ∃ y_ : List Bool, y_ = (List.replicate (ji3 : Int).toNat false) := ⟨_, rfl⟩
      replace H : (impl_atomsIn.l0 k y195 l1 (l1.length : Int) 0) = some r := by first | (rw [hy195]; with_reducible exact H) | (have H2_ := (Option.bind_some _ _).symm.trans H; rw [hy195]; with_reducible exact H2_) | (have H2_ := (Option.bind_some _ _).symm.trans H; with_reducible exact H2_) | with_reducible exact H | (rw [hy195]; exact H) | exact H
      have Ny195 := Aside0.mk hy195
      clear hy195
      have H' := Aside0.mk H
      clear H
      go_enter Try.func44, Try.ntmps44
      go_wp2_with (first | ((with_reducible refine gate_dst (N := 12) rfl ?_); refine Kd.R_make Kd.bool _ 4 rfl (N := 12) rfl 52 _ _ rfl ji3 rfl rfl Try.underlying52 (.bool false) 1 info4 rfl (by decide) (by omega) false (ok := fun _ => True) (okp := fun _ => True) rfl (fun _ hk => hk) trivial (of_decide_eq_true (by first | (with_reducible assumption) | assumption)) (Nat.le_trans (Nat.mul_le_mul_right _ (of_decide_eq_true (by first | (with_reducible assumption) | assumption) : ji3.toNat ≤ 281474976710656)) (by omega)) (Below.refl _ _) (Nat.le_refl _) ?_; intro v196 w6 ho7 hb hg_ hnew_; clear hg_ hnew_; (first | rw [← Ny195.out] at ho7 | (simp only [Int.reduceToNat] at ho7; rw [← Ny195.out] at ho7)); have n0_ := Aside0.mk (Kd.R_lower ho7 (below_size (by repeat (first | (with_reducible first | exact HB.out | apply below_alloc | apply pw_below_drewN | apply below_drew1) | exact HB.out)))); have n1_ := Aside0.mk (below_step (by repeat (first | (with_reducible first | exact HB.out | apply below_alloc | apply pw_below_drewN | apply below_drew1) | exact HB.out)) hb); clear HB; have HO197 := n0_; have HB := n1_; clear n0_ n1_; clear hb ho7))
      go_loopg [15] k (fun kq v15 w' => ∃ (x5_1 : List Bool) (x15_1 : Int), v15 = .int .i64 x15_1 ∧ Aside0 (impl_atomsIn.l0 kq x5_1 l1 (l1.length : Int) x15_1 = some r) ∧ Aside0 (kq ≤ k) ∧ Aside0 (Kd.R Kd.bool 4 w' w.heap.size (fun _ => True) v196 x5_1) ∧ Aside0 (Below w.heap.size w w'))
      case atStart => exact ⟨(y195), (0), (by first | rfl | (simp; done) | (simp [*]; done)), H', ⟨Nat.le_refl _⟩, ⟨by (with_reducible repeat (first | apply Kd.R_alloc | apply Kd.R_drewN | apply Kd.R_drew)); exact HO197.out⟩, ⟨by repeat (first | (with_reducible first | exact HB.out | apply below_alloc | apply pw_below_drewN | apply below_drew1) | exact HB.out)⟩⟩
      case round =>
        clear H'
        try clear c1
        try clear p2
        try clear c4
        try clear c4b0
        try clear c4b1
        try clear c5
        try clear c5b0
        try clear c5b1
        try clear p6
        obtain ⟨x5_1, x15_1, rfl, HA, HK1, HO_5, HB⟩ := hrel
        cases gk with
        | zero => exact absurd HA.out (by simp [impl_atomsIn.l0])
        | succ k1 =>
          have H := HA.out
          clear HA
          simp only [impl_atomsIn.l0] at H
          by_cases c8 : x15_1 < (l1.length : Int)
          · rw [if_pos c8] at H
            have c8b0 : decide (x15_1 < (l1.length : Int)) = true := decide_eq_true c8
            clear c8
            by_cases c9 : 0 ≤ x15_1
            · rw [if_pos c9] at H
              have c9b0 : decide (0 ≤ x15_1) = true := decide_eq_true c9
              clear c9
              by_cases c10 : x15_1 < (l1.length : Int)
              · rw [if_pos c10] at H
                have c10b0 : decide (x15_1 < (l1.length : Int)) = true := decide_eq_true c10
                clear c10
                have H' := Aside0.mk H
                clear H
                have p198 : 0 ≤ (x15_1 : Int) := of_decide_eq_true (by first | (with_reducible assumption) | assumption)
                have q198 : x15_1 < (l1.length : Int) := of_decide_eq_true (by first | (with_reducible assumption) | assumption)
                obtain ⟨ad198, A198_0, c198_0, e198, hx198_0, hl198_0, hi198_0⟩ := at_L1 HR1.out x15_1 p198 q198
                cases e198
                replace hx198_0 := (HB.out.cell (World.block_lt_of_cell? w _ hx198_0)).trans hx198_0
                have HR198_0 := Aside0.mk hi198_0
                have HC198_0 := Aside0.mk hl198_0
                clear hi198_0 hl198_0
                replace p198 := eq_true p198
                replace q198 := eq_true q198
                go_wp2
                go_loopg [21] k1 (fun kq v21 w' => ∃ (x5_2 : List Bool) (x21_2 : Int), v21 = .int .i64 x21_2 ∧ Aside0 (impl_atomsIn.l1 kq x5_2 l1 (l1.length : Int) x15_1 (rd_L1 l1 x15_1) ((rd_L1 l1 x15_1).length : Int) x21_2 = some r) ∧ Aside0 (kq ≤ k1) ∧ Aside0 (Kd.R Kd.bool 4 w' w.heap.size (fun _ => True) v196 x5_2) ∧ Aside0 (Below w.heap.size w w'))
                case atStart => exact ⟨(x5_1), (0), (by first | rfl | (simp; done) | (simp [*]; done)), H', ⟨Nat.le_refl _⟩, ⟨by (with_reducible repeat (first | apply Kd.R_alloc | apply Kd.R_drewN | apply Kd.R_drew)); exact HO_5.out⟩, ⟨by repeat (first | (with_reducible first | exact HB.out | apply below_alloc | apply pw_below_drewN | apply below_drew1) | exact HB.out)⟩⟩
                case round =>
                  clear H'
                  try clear c1
                  try clear p1
                  try clear q1
                  try clear hx1
                  try clear p2
                  try clear c4
                  try clear c4b0
                  try clear c4b1
                  try clear c5
                  try clear c5b0
                  try clear c5b1
                  try clear p6
                  try clear c8
                  try clear c8b0
                  try clear c9
                  try clear c9b0
                  try clear c10
                  try clear c10b0
                  try clear hx198_0
                  try clear p198
                  try clear p2
                  try clear p6
                  try clear q198
                  obtain ⟨x5_2, x21_2, rfl, HA, HK2, HO_5, HB⟩ := hrel
                  cases gk with
                  | zero => exact absurd HA.out (by simp [impl_atomsIn.l1])
                  | succ k2 =>
                    have H := HA.out
                    clear HA
                    simp only [impl_atomsIn.l1] at H
                    by_cases c11 : x21_2 < ((rd_L1 l1 x15_1).length : Int)
                    · rw [if_pos c11] at H
                      have c11b0 : decide (x21_2 < ((rd_L1 l1 x15_1).length : Int)) = true := decide_eq_true c11
                      clear c11
                      by_cases c12 : 0 ≤ x21_2
                      · rw [if_pos c12] at H
                        have c12b0 : decide (0 ≤ x21_2) = true := decide_eq_true c12
                        clear c12
                        by_cases c13 : x21_2 < ((rd_L1 l1 x15_1).length : Int)
                        · rw [if_pos c13] at H
                          have c13b0 : decide (x21_2 < ((rd_L1 l1 x15_1).length : Int)) = true := decide_eq_true c13
                          clear c13
                          replace H := Option.bind_eq_some_iff.mp H
                          obtain ⟨t200, A140, H⟩ := H
                          replace H : (if 0 ≤ t200 then (if t200 < (x5_2.length : Int) then (impl_atomsIn.l1 k2 (x5_2.set (t200 : Int).toNat true) l1 (l1.length : Int) x15_1 (rd_L1 l1 x15_1) ((rd_L1 l1 x15_1).length : Int) (wrap64 (x21_2 + 1))) else (none)) else (none)) = some r := H
                          have A14 := Aside0.mk A140
                          clear A140
                          by_cases c15 : 0 ≤ t200
                          · rw [if_pos c15] at H
                            have c15b0 : decide (0 ≤ t200) = true := decide_eq_true c15
                            clear c15
                            by_cases c16 : t200 < (x5_2.length : Int)
                            · rw [if_pos c16] at H
                              have c16b0 : decide (t200 < (x5_2.length : Int)) = true := decide_eq_true c16
                              clear c16
                              obtain ⟨y201, hy201⟩ : ∃ y_ : List Bool, y_ = (x5_2.set (t200 : Int).toNat true) := ⟨_, rfl⟩
                              replace H : (impl_atomsIn.l1 k2 y201 l1 (l1.length : Int) x15_1 (rd_L1 l1 x15_1) ((rd_L1 l1 x15_1).length : Int) (wrap64 (x21_2 + 1))) = some r := by first | (rw [hy201]; with_reducible exact H) | (have H2_ := (Option.bind_some _ _).symm.trans H; rw [hy201]; with_reducible exact H2_) | (have H2_ := (Option.bind_some _ _).symm.trans H; with_reducible exact H2_) | with_reducible exact H | (rw [hy201]; exact H) | exact H
                              have Ny201 := Aside0.mk hy201
                              clear hy201
                              have H' := Aside0.mk H
                              clear H
                              have p199 : 0 ≤ (x21_2 : Int) := of_decide_eq_true (by first | (with_reducible assumption) | assumption)
                              have q199 : x21_2 < ((rd_L1 l1 x15_1).length : Int) := of_decide_eq_true (by first | (with_reducible assumption) | assumption)
                              obtain ⟨ad199, e199, hx199_0⟩ := Kd.at_int HR198_0.out x21_2 p199 q199
                              cases e199
                              replace hx199_0 := (HB.out.cell (World.block_lt_of_cell? w _ hx199_0)).trans hx199_0
                              replace p199 := eq_true p199
                              replace q199 := eq_true q199
                              go_wp2_with (first | ((with_reducible refine gate_callee (f := 60) rfl ?_); refine goesL_ (some 27) rfl rfl Try.func60 (by kernel_rfl) rfl #[.int .i64 (rd (rd_L1 l1 x15_1) x21_2)] rfl (by (try simp only [List.map_toArray, List.map_cons, List.map_nil]); first | done | rfl | (simp only [List.length_drop, List.length_take]; rfl)) ?_; (with_reducible refine (impl_atomOf.calls (rd (rd_L1 l1 x15_1) x21_2) t200 _ A14.out).mono ?_); rintro e w18 ⟨rfl, hb⟩; refine ⟨_, rfl, ?_⟩; have n0_ := Aside0.mk (Kd.R_below (by (with_reducible repeat (first | apply Kd.R_alloc | apply Kd.R_drewN | apply Kd.R_drew)); exact HO_5.out) hb); have n1_ := Aside0.mk (below_step (by repeat (first | (with_reducible first | exact HB.out | apply below_alloc | apply pw_below_drewN | apply below_drew1) | exact HB.out)) hb); clear HO_5; clear HB; have HO_5 := n0_; have HB := n1_; clear n0_ n1_; (try clear hb); (try clear hb2); (try clear hk); (try clear hi); have p17 : 0 ≤ (t200 : Int) := of_decide_eq_true (by first | (with_reducible assumption) | assumption); have q17 : (t200 : Int) < ((x5_2.length : Int) : Int) := of_decide_eq_true (by first | (with_reducible assumption) | assumption); obtain ⟨go17, co17, eo17, gb17, gl17, cl17, HG17⟩ := Kd.R_form HO_5.out (by omega); (first | cases eo17 | (injection eo17 with ea_ en_ ec_; (first | subst ea_ | (injection ea_ with ea_; subst ea_)); subst ec_; clear en_)); have GB17 := Aside0.mk gb17; have GG17 := Aside0.mk HG17; clear gb17 gl17 HG17; obtain ⟨hx17_0, hf17_0⟩ := Kd.R_celln false HO_5.out (t200 : Int) p17 q17; replace p17 := eq_true p17; replace q17 := eq_true q17; obtain ⟨hy19_, hz19_⟩ := Kd.R_celln false HO_5.out (t200 : Int) (of_decide_eq_true (by first | (with_reducible assumption) | assumption)) (of_decide_eq_true (by first | (with_reducible assumption) | assumption)); have HP19 := Kd.R_putg HO_5.out (t200 : Int) true) | ((with_reducible refine gate_store (t := 4) (p := 28) rfl ?_); refine store_event (t := 4) (p := 28) (v := ?vo_w20) (w1 := (w18.setCell ⟨go17, (t200 : Int).toNat, none⟩ (.bool true))) ?hg ?ho ?hn ?hr ?_; (case ho => rfl); (case hg => rfl); (case hn => rfl); (case hr => first | (go_simp; done) | (go_simp; rfl)); intro w20 hw; have hg : w18.grownBy w20 (some go17) := (by rw [hw]; exact HP19.2); have hp_ : Kd.R Kd.bool 4 w20 w.heap.size (fun _ => True) (.slice (some ⟨go17, 0, none⟩) x5_2.length co17) y201 := (by rw [hw, Ny201.out]; exact HP19.1); clear HP19; have n0_ := Aside0.mk (hp_); have n1_ := Aside0.mk ((by rw [hw]; exact below_set (HB.out) GB17.out : Below w.heap.size w w20)); clear HO_5; clear HB; have HO_5 := n0_; have HB := n1_; clear n0_ n1_; clear hg hw hp_))
                              go_roundg k2
                              case measure => have := HK1.out; have := HK2.out; omega
                              case rel => exact ⟨(y201), (wrap64 (x21_2 + 1)), (by first | rfl | (simp; done) | (simp [*]; done)), H', ⟨by have := HK1.out; have := HK2.out; omega⟩, ⟨by (with_reducible repeat (first | apply Kd.R_alloc | apply Kd.R_drewN | apply Kd.R_drew)); exact HO_5.out⟩, ⟨by repeat (first | (with_reducible first | exact HB.out | apply below_alloc | apply pw_below_drewN | apply below_drew1) | exact HB.out)⟩⟩
                            · rw [if_neg c16] at H
                              exact absurd H (by simp)
                          · rw [if_neg c15] at H
                            exact absurd H (by simp)
                        · rw [if_neg c13] at H
                          exact absurd H (by simp)
                      · rw [if_neg c12] at H
                        exact absurd H (by simp)
                    · rw [if_neg c11] at H
                      have c11b0 : decide (x21_2 < ((rd_L1 l1 x15_1).length : Int)) = false := decide_eq_false c11
                      clear c11
                      have H' := Aside0.mk H
                      clear H
                      go_wp2
                      go_roundg k2
                      case measure => have := HK1.out; have := HK2.out; omega
                      case rel => exact ⟨(x5_2), (wrap64 (x15_1 + 1)), (by first | rfl | (simp; done) | (simp [*]; done)), H', ⟨by have := HK1.out; have := HK2.out; omega⟩, ⟨by (with_reducible repeat (first | apply Kd.R_alloc | apply Kd.R_drewN | apply Kd.R_drew)); exact HO_5.out⟩, ⟨by repeat (first | (with_reducible first | exact HB.out | apply below_alloc | apply pw_below_drewN | apply below_drew1) | exact HB.out)⟩⟩
              · rw [if_neg c10] at H
                exact absurd H (by simp)
            · rw [if_neg c9] at H
              exact absurd H (by simp)
          · rw [if_neg c8] at H
            have c8b0 : decide (x15_1 < (l1.length : Int)) = false := decide_eq_false c8
            clear c8
            obtain rfl := Option.some.inj H
            go_wp2
            go_ret
            exact ⟨_, by first | rfl | (simp [errW_none, errW_some] <;> rfl) | (simp only [← hji3]; first | rfl | (simp [errW_none, errW_some] <;> rfl)) | (simp [*, errW_none, errW_some] <;> rfl), by (with_reducible repeat (first | apply Kd.R_alloc | apply Kd.R_drewN | apply Kd.R_drew)); exact HO_5.out, by repeat (first | (with_reducible first | exact HB.out | apply below_alloc | apply pw_below_drewN | apply below_drew1) | exact HB.out)⟩
    · rw [if_neg c5] at H
      exact absurd H (by simp)
  · rw [if_neg c4] at H
    exact absurd H (by simp)

end Go.Proofs.Ythcegdgffdppgac.XFnExactSharedAtoms
