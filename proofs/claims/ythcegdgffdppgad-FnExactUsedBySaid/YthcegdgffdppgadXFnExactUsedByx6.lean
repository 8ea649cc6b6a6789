/- Printed by a program of this session out of the translation: the Go functions that a law uses as plain Lean functions, with the proofs of their calls, or the law's row.
Conditions: those that each theorem states. -/
import Derived.Test.YthcegdgffdppgadXFnExactUsedByx0
import Derived.Test.YthcegdgffdppgadXFnExactUsedByx5
namespace Go.Proofs.Ythcegdgffdppgad.XFnExactUsedBy
open Go.RowKit Go.Proofs.YthcegdgffdppgadW.PrintWords Go.Proofs.YthcegdgffdppgadW.PrintLast Go.Proofs.YthcegdgffdppgadW.PrintMore
attribute [local go_sem] max2_int min2_int max_two min_two max_three min_three max_four min_four   -- for this text's walks alone
set_option linter.unusedVariables false
set_option linter.unusedSimpArgs false

/-! ### impl_usedBy: function 39 -/
mutual
def impl_usedBy.l0 : Nat → List (S48) → List Bool → List Bool → Int → Option (List Int)
  | 0, _, _, _, _ => none
  | k + 1, x0, x5, x6, x7 => if x7 ≥ 0 then (if 0 ≤ x7 then (if x7 < (x0.length : Int) then (if x7 < (x5.length : Int) then (if rdOf false x5 x7 = true then (impl_usedBy.j1 k x0 x5 x6 x7 (((rd_T48 x0 x7).f0) == 0) ((rd_T48 x0 x7).f0) ((rd_T48 x0 x7).f1) ((rd_T48 x0 x7).f2) ((rd_T48 x0 x7).f3)) else (impl_usedBy.j1 k x0 x5 x6 x7 true ((rd_T48 x0 x7).f0) ((rd_T48 x0 x7).f1) ((rd_T48 x0 x7).f2) ((rd_T48 x0 x7).f3))) else (none)) else (none)) else (none)) else (impl_usedBy.l1 k ([] : List Int) x6 (x6.length : Int) 0)
def impl_usedBy.j1 : Nat → List (S48) → List Bool → List Bool → Int → Bool → Int → Int → Int → Int → Option (List Int)
  | 0, _, _, _, _, _, _, _, _, _ => none
  | k + 1, x0, x5, x6, x7, x41, x207000, x207001, x207002, x207003 => if x41 = true then (impl_usedBy.l0 k x0 x5 x6 (wrap64 (x7 - 1))) else (if x207000 = 1 then (if 0 ≤ x207001 then (if x207001 < (x6.length : Int) then (impl_usedBy.l0 k x0 x5 (x6.set (x207001 : Int).toNat true) (wrap64 (x7 - 1))) else (none)) else (none)) else (if 0 ≤ x207002 then (if x207002 < (x5.length : Int) then (if 0 ≤ x207003 then (if x207003 < (x5.length : Int) then (impl_usedBy.l0 k x0 ((x5.set (x207002 : Int).toNat true).set (x207003 : Int).toNat true) x6 (wrap64 (x7 - 1))) else (none)) else (none)) else (none)) else (none)))
def impl_usedBy.l1 : Nat → List Int → List Bool → Int → Int → Option (List Int)
  | 0, _, _, _, _ => none
  | k + 1, x9, x60, x61, x62 => if x62 < x61 then (if 0 ≤ x62 then (if x62 < (x60.length : Int) then (if rdOf false x60 x62 = true then (if x9.length < 17592186044416 then (impl_usedBy.l1 k (x9 ++ [x62]) x60 x61 (wrap64 (x62 + 1))) else (none)) else (impl_usedBy.l1 k x9 x60 x61 (wrap64 (x62 + 1)))) else (none)) else (none)) else ((impl_clone_int.f x9).bind fun t215 => (some t215))
end
def impl_usedBy.f (k : Nat) (l0 : List (S48)) (a1 : Int) : Option (List Int) := if 0 ≤ (l0.length : Int) then (if ((l0.length : Int) : Int).toNat ≤ 281474976710656 then ((some (List.replicate ((l0.length : Int) : Int).toNat false : List Bool)).bind fun y198 => (if 0 ≤ a1 then (if (a1 : Int).toNat ≤ 281474976710656 then (if 0 ≤ (wrap64 ((l0.length : Int) - 1)) then (if (wrap64 ((l0.length : Int) - 1)) < (y198.length : Int) then (impl_usedBy.l0 k l0 (y198.set ((wrap64 ((l0.length : Int) - 1)) : Int).toNat true) (List.replicate (a1 : Int).toNat false) (wrap64 ((l0.length : Int) - 1))) else (none)) else (none)) else (none)) else (none))) else (none)) else (none)
theorem impl_usedBy.mono_l : ∀ k, (∀ y0 y1 y2 y3, LeO (impl_usedBy.l0 k y0 y1 y2 y3) (impl_usedBy.l0 (k + 1) y0 y1 y2 y3)) ∧ (∀ y0 y1 y2 y3 y4 y5 y6 y7 y8, LeO (impl_usedBy.j1 k y0 y1 y2 y3 y4 y5 y6 y7 y8) (impl_usedBy.j1 (k + 1) y0 y1 y2 y3 y4 y5 y6 y7 y8)) ∧ (∀ y0 y1 y2 y3, LeO (impl_usedBy.l1 k y0 y1 y2 y3) (impl_usedBy.l1 (k + 1) y0 y1 y2 y3))
  | 0 => ⟨fun _ _ _ _ r h => by simp [impl_usedBy.l0] at h, fun _ _ _ _ _ _ _ _ _ r h => by simp [impl_usedBy.j1] at h, fun _ _ _ _ r h => by simp [impl_usedBy.l1] at h⟩
  | k + 1 => by
    obtain ⟨ih0, ih1, ih2⟩ := impl_usedBy.mono_l k
    refine ⟨?_, ?_, ?_⟩
    · intro y0 y1 y2 y3
      unfold impl_usedBy.l0
      repeat' first
      | (with_reducible exact ih0 _ _ _ _)
      | (with_reducible exact ih1 _ _ _ _ _ _ _ _ _)
      | (with_reducible exact ih2 _ _ _ _)
      | (with_reducible exact LeO.refl _)
      | (with_reducible exact LeO.none _)
      | (with_reducible refine LeO.ite ?_ ?_)
      | (with_reducible refine LeO.bind ?_ (fun _ => ?_))
      | exact ih0 _ _ _ _
      | exact ih1 _ _ _ _ _ _ _ _ _
      | exact ih2 _ _ _ _
      | exact LeO.none _
      | refine LeO.ite ?_ ?_
      | refine LeO.bind ?_ (fun _ => ?_)
    · intro y0 y1 y2 y3 y4 y5 y6 y7 y8
      unfold impl_usedBy.j1
      repeat' first
      | (with_reducible exact ih0 _ _ _ _)
      | (with_reducible exact ih1 _ _ _ _ _ _ _ _ _)
      | (with_reducible exact ih2 _ _ _ _)
      | (with_reducible exact LeO.refl _)
      | (with_reducible exact LeO.none _)
      | (with_reducible refine LeO.ite ?_ ?_)
      | (with_reducible refine LeO.bind ?_ (fun _ => ?_))
      | exact ih0 _ _ _ _
      | exact ih1 _ _ _ _ _ _ _ _ _
      | exact ih2 _ _ _ _
      | exact LeO.none _
      | refine LeO.ite ?_ ?_
      | refine LeO.bind ?_ (fun _ => ?_)
    · intro y0 y1 y2 y3
      unfold impl_usedBy.l1
      repeat' first
      | (with_reducible exact ih0 _ _ _ _)
      | (with_reducible exact ih1 _ _ _ _ _ _ _ _ _)
      | (with_reducible exact ih2 _ _ _ _)
      | (with_reducible exact LeO.refl _)
      | (with_reducible exact LeO.none _)
      | (with_reducible refine LeO.ite ?_ ?_)
      | (with_reducible refine LeO.bind ?_ (fun _ => ?_))
      | exact ih0 _ _ _ _
      | exact ih1 _ _ _ _ _ _ _ _ _
      | exact ih2 _ _ _ _
      | exact LeO.none _
      | refine LeO.ite ?_ ?_
      | refine LeO.bind ?_ (fun _ => ?_)
theorem impl_usedBy.mono : ∀ a0 a1 k, LeO (impl_usedBy.f k a0 a1) (impl_usedBy.f (k + 1) a0 a1) := by
  intro a0 a1 k
  obtain ⟨ih0, ih1, ih2⟩ := impl_usedBy.mono_l k
  unfold impl_usedBy.f
  repeat' first
      | (with_reducible exact ih0 _ _ _ _)
      | (with_reducible exact ih1 _ _ _ _ _ _ _ _ _)
      | (with_reducible exact ih2 _ _ _ _)
      | (with_reducible exact LeO.refl _)
      | (with_reducible exact LeO.none _)
      | (with_reducible refine LeO.ite ?_ ?_)
      | (with_reducible refine LeO.bind ?_ (fun _ => ?_))
      | exact ih0 _ _ _ _
      | exact ih1 _ _ _ _ _ _ _ _ _
      | exact ih2 _ _ _ _
      | exact LeO.none _
      | refine LeO.ite ?_ ?_
      | refine LeO.bind ?_ (fun _ => ?_)
def impl_usedBy.T8 : Bool × List (List Nat × List Nat) := (true, [([], []), ([], []), ([1], [1]), ([], []), ([], []), ([4], [4]), ([0, 2, 0, 1, 2], [0, 2]), ([6, 0, 1, 2], [6]), ([3, 5, 0, 1, 2, 3, 4, 5, 6, 7], [3, 5]), ([8, 7, 0, 1, 2, 3, 4, 5, 6, 7], [8])])
def impl_usedBy.B8 : List Nat := [0, 0, 2, 0, 0, 16, 7, 71, 255, 511]
theorem impl_usedBy.tab8 : rtab .any (opsOf Try.f39 8) = impl_usedBy.T8 := by kernel_rfl
theorem impl_usedBy.bits8 : waitsOk impl_usedBy.T8.2 impl_usedBy.B8 = true := by kernel_rfl
set_option maxHeartbeats 8000000 in
set_option maxRecDepth 100000 in
theorem impl_usedBy.calls (k : Nat) (A0 : Option Addr) (c0 : Nat) (l0 : List (S48)) (a1 : Int) (r : List Int) (w : World) (hr0 : Kd.C k48 w A0 l0.length l0) (hc0 : l0.length ≤ c0) (h : impl_usedBy.f k l0 a1 = some r) :
    Calls Try.prog 39 #[.slice A0 l0.length c0, .int .i64 a1] w fun e w' => ∃ v0_ : Value, e = .returned (v0_) ∧ Kd.R (Kd.int .i64) 3 w' w.heap.size (fun _ => True) v0_ r ∧ Below w.heap.size w w' := by
  have hu48 := Try.underlying48
  have HR0 := Aside0.mk hr0
  have HC0 := Aside0.mk hc0
  clear hr0 hc0
  have HB := Aside0.mk (Below.refl w.heap.size w)
  have H : (if 0 ≤ (l0.length : Int) then (if ((l0.length : Int) : Int).toNat ≤ 281474976710656 then ((some (List.replicate ((l0.length : Int) : Int).toNat false : List Bool)).bind fun y198 => (if 0 ≤ a1 then (if (a1 : Int).toNat ≤ 281474976710656 then (if 0 ≤ (wrap64 ((l0.length : Int) - 1)) then (if (wrap64 ((l0.length : Int) - 1)) < (y198.length : Int) then (impl_usedBy.l0 k l0 (y198.set ((wrap64 ((l0.length : Int) - 1)) : Int).toNat true) (List.replicate (a1 : Int).toNat false) (wrap64 ((l0.length : Int) - 1))) else (none)) else (none)) else (none)) else (none))) else (none)) else (none)) = some r := h
  clear h
  by_cases c3 : 0 ≤ (l0.length : Int)
  · rw [if_pos c3] at H
    have c3b0 := eq_true c3
    have c3b1 : decide (0 ≤ (l0.length : Int)) = true := decide_eq_true c3
    clear c3
    by_cases c4 : ((l0.length : Int) : Int).toNat ≤ 281474976710656
    · rw [if_pos c4] at H
      have c4b0 := eq_true c4
      have c4b1 : decide (((l0.length : Int) : Int).toNat ≤ 281474976710656) = true := decide_eq_true c4
      clear c4
      obtain ⟨y198, hy198⟩ : ∃ y_ : List Bool, y_ = (List.replicate ((l0.length : Int) : Int).toNat false) := ⟨_, rfl⟩
      replace H : (if 0 ≤ a1 then (if (a1 : Int).toNat ≤ 281474976710656 then (if 0 ≤ (wrap64 ((l0.length : Int) - 1)) then (if (wrap64 ((l0.length : Int) - 1)) < (y198.length : Int) then (impl_usedBy.l0 k l0 (y198.set ((wrap64 ((l0.length : Int) - 1)) : Int).toNat true) (List.replicate (a1 : Int).toNat false) (wrap64 ((l0.length : Int) - 1))) else (none)) else (none)) else (none)) else (none)) = some r := by first | (rw [hy198]; with_reducible exact H) | (have H2_ := (Option.bind_some _ _).symm.trans H; rw [hy198]; with_reducible exact H2_) | (have H2_ := (Option.bind_some _ _).symm.trans H; with_reducible exact H2_) | with_reducible exact H | (rw [hy198]; exact H) | exact H
      have Ny198 := Aside0.mk hy198
      clear hy198
      by_cases c5 : 0 ≤ a1
      · rw [if_pos c5] at H
        have c5b0 := eq_true c5
        have c5b1 : decide (0 ≤ a1) = true := decide_eq_true c5
        clear c5
        by_cases c6 : (a1 : Int).toNat ≤ 281474976710656
        · rw [if_pos c6] at H
          have c6b0 := eq_true c6
          have c6b1 : decide ((a1 : Int).toNat ≤ 281474976710656) = true := decide_eq_true c6
          clear c6
          obtain ⟨y201, hy201⟩ : ∃ y_ : List Bool, y_ = (List.replicate (a1 : Int).toNat false) := ⟨_, rfl⟩
          replace H : (if 0 ≤ (wrap64 ((l0.length : Int) - 1)) then (if (wrap64 ((l0.length : Int) - 1)) < (y198.length : Int) then (impl_usedBy.l0 k l0 (y198.set ((wrap64 ((l0.length : Int) - 1)) : Int).toNat true) y201 (wrap64 ((l0.length : Int) - 1))) else (none)) else (none)) = some r := by first | (rw [hy201]; with_reducible exact H) | (have H2_ := (Option.bind_some _ _).symm.trans H; rw [hy201]; with_reducible exact H2_) | (have H2_ := (Option.bind_some _ _).symm.trans H; with_reducible exact H2_) | with_reducible exact H | (rw [hy201]; exact H) | exact H
          have Ny201 := Aside0.mk hy201
          clear hy201
          obtain ⟨ji7, hji7⟩ : ∃ j_ : Int, (wrap64 ((l0.length : Int) - 1)) = j_ := ⟨_, rfl⟩
          replace H : (if 0 ≤ (ji7) then (if (ji7) < (y198.length : Int) then (impl_usedBy.l0 k l0 (y198.set ((ji7) : Int).toNat true) y201 ji7) else (none)) else (none)) = some r := by first | (rw [hji7] at H; exact H) | (simp only [hji7] at H ⊢; exact H)
          have hji7w : (IntKind.i64.wrap ((l0.length : Int) - 1)) = ji7 := (i64_w _).trans hji7
          by_cases c8 : 0 ≤ (ji7)
          · rw [if_pos c8] at H
            have c8b0 : decide (0 ≤ (ji7)) = true := decide_eq_true c8
            clear c8
            by_cases c9 : (ji7) < (y198.length : Int)
            · rw [if_pos c9] at H
              have c9b0 : decide ((ji7) < (y198.length : Int)) = true := decide_eq_true c9
              clear c9
              obtain ⟨y204, hy204⟩ : ∃ y_ : List Bool, y_ = (y198.set ((ji7) : Int).toNat true) := ⟨_, rfl⟩
              replace H : (impl_usedBy.l0 k l0 y204 y201 ji7) = some r := by first | (rw [hy204]; with_reducible exact H) | (have H2_ := (Option.bind_some _ _).symm.trans H; rw [hy204]; with_reducible exact H2_) | (have H2_ := (Option.bind_some _ _).symm.trans H; with_reducible exact H2_) | with_reducible exact H | (rw [hy204]; exact H) | exact H
              have Ny204 := Aside0.mk hy204
              clear hy204
              have H' := Aside0.mk H
              clear H
              go_enter Try.func39, Try.ntmps39
              go_wp2_with (first | ((with_reducible refine gate_dst (N := 14) rfl ?_); refine Kd.R_make Kd.bool _ 4 rfl (N := 14) rfl 56 _ _ rfl (l0.length : Int) rfl rfl Try.underlying56 (.bool false) 1 info4 rfl (by decide) (by omega) false (ok := fun _ => True) (okp := fun _ => True) rfl (fun _ hk => hk) trivial (of_decide_eq_true (by first | (with_reducible assumption) | assumption)) (Nat.le_trans (Nat.mul_le_mul_right _ (of_decide_eq_true (by first | (with_reducible assumption) | assumption) : (l0.length : Int).toNat ≤ 281474976710656)) (by omega)) (Below.refl _ _) (Nat.le_refl _) ?_; intro v199 w11 ho12 hb hg_ hnew_; clear hg_ hnew_; (first | rw [← Ny198.out] at ho12 | (simp only [Int.reduceToNat] at ho12; rw [← Ny198.out] at ho12)); have n0_ := Aside0.mk (Kd.R_lower ho12 (below_size (by repeat (first | (with_reducible first | exact HB.out | apply below_alloc | apply pw_below_drewN | apply below_drew1) | exact HB.out)))); have n1_ := Aside0.mk (below_step (by repeat (first | (with_reducible first | exact HB.out | apply below_alloc | apply pw_below_drewN | apply below_drew1) | exact HB.out)) hb); clear HB; have HO200 := n0_; have HB := n1_; clear n0_ n1_; clear hb ho12) | ((with_reducible refine gate_dst (N := 16) rfl ?_); refine Kd.R_make Kd.bool _ 4 rfl (N := 16) rfl 56 _ _ rfl a1 rfl rfl Try.underlying56 (.bool false) 1 info4 rfl (by decide) (by omega) false (ok := fun _ => True) (okp := fun _ => True) rfl (fun _ hk => hk) trivial (of_decide_eq_true (by first | (with_reducible assumption) | assumption)) (Nat.le_trans (Nat.mul_le_mul_right _ (of_decide_eq_true (by first | (with_reducible assumption) | assumption) : a1.toNat ≤ 281474976710656)) (by omega)) (Below.refl _ _) (Nat.le_refl _) ?_; intro v202 w13 ho14 hb hg_ hnew_; clear hg_ hnew_; (first | rw [← Ny201.out] at ho14 | (simp only [Int.reduceToNat] at ho14; rw [← Ny201.out] at ho14)); have n0_ := Aside0.mk (Kd.R_elder' (by (with_reducible repeat (first | apply Kd.R_alloc | apply Kd.R_drewN | apply Kd.R_drew)); exact HO200.out) (Kd.R_base ho14) hb); have n1_ := Aside0.mk (Kd.R_lower (Kd.R_new' ho14 (Kd.R_lt (by (with_reducible repeat (first | apply Kd.R_alloc | apply Kd.R_drewN | apply Kd.R_drew)); exact HO200.out))) (below_size (by repeat (first | (with_reducible first | exact HB.out | apply below_alloc | apply pw_below_drewN | apply below_drew1) | exact HB.out)))); have n2_ := Aside0.mk (below_step (by repeat (first | (with_reducible first | exact HB.out | apply below_alloc | apply pw_below_drewN | apply below_drew1) | exact HB.out)) hb); clear HO200; clear HB; have HO200 := n0_; have HO203 := n1_; have HB := n2_; clear n0_ n1_ n2_; clear hb ho14; have p10 : 0 ≤ ((ji7) : Int) := of_decide_eq_true (by first | (with_reducible assumption) | assumption); have q10 : ((ji7) : Int) < ((y198.length : Int) : Int) := of_decide_eq_true (by first | (with_reducible assumption) | assumption); obtain ⟨go10, co10, eo10, gb10, gl10, cl10, HG10⟩ := Kd.R_form HO200.out (by omega); (first | cases eo10 | (injection eo10 with ea_ en_ ec_; (first | subst ea_ | (injection ea_ with ea_; subst ea_)); subst ec_; clear en_)); have GB10 := Aside0.mk gb10; have GG10 := Aside0.mk HG10; clear gb10 gl10 HG10; obtain ⟨hx10_0, hf10_0⟩ := Kd.R_celln false HO200.out ((ji7) : Int) p10 q10; replace p10 := eq_true p10; replace q10 := eq_true q10; have n_ := Aside0.mk (Kd.R_mono (ok' := (fun k_ => some k_ ≠ (v202 : Value).ownBlock)) HO200.out (fun k_ hk => hk.2)); clear HO200; have HO200 := n_; clear n_; obtain ⟨hy15_, hz15_⟩ := Kd.R_celln false HO200.out ((ji7) : Int) (of_decide_eq_true (by first | (with_reducible assumption) | assumption)) (of_decide_eq_true (by first | (with_reducible assumption) | assumption)); have HP15 := Kd.R_putg HO200.out ((ji7) : Int) true) | ((with_reducible refine gate_store (t := 4) (p := 21) rfl ?_); refine store_event (t := 4) (p := 21) (v := ?vo_w16) (w1 := (w13.setCell ⟨go10, ((ji7) : Int).toNat, none⟩ (.bool true))) ?hg ?ho ?hn ?hr ?_; (case ho => rfl); (case hg => rfl); (case hn => rfl); (case hr => first | (go_simp; done) | (go_simp; rfl)); intro w16 hw; have hg : w13.grownBy w16 (some go10) := (by rw [hw]; exact HP15.2); have hp_ : Kd.R Kd.bool 4 w16 w.heap.size (fun k_ => some k_ ≠ (v202 : Value).ownBlock) (.slice (some ⟨go10, 0, none⟩) y198.length co10) y204 := (by rw [hw, Ny204.out]; exact HP15.1); clear HP15; have n0_ := Aside0.mk (hp_); have n1_ := Aside0.mk (Kd.R_after (v := (.slice (some ⟨go10, 0, none⟩) y198.length co10)) (v1 := (.slice (some ⟨go10, 0, none⟩) y198.length co10)) (ok := (fun _ => True)) (by (with_reducible repeat (first | apply Kd.R_alloc | apply Kd.R_drewN | apply Kd.R_drew)); exact HO203.out) hg (.inl rfl)); have n2_ := Aside0.mk ((by rw [hw]; exact below_set (HB.out) GB10.out : Below w.heap.size w w16)); clear HO200; clear HO203; clear HB; have HO200 := n0_; have HO203 := n1_; have HB := n2_; clear n0_ n1_ n2_; clear hg hw hp_))
              go_loopg [7] k (fun kq v7 w' => ∃ (x5_1 : List Bool) (x6_1 : List Bool) (x7_1 : Int), v7 = .int .i64 x7_1 ∧ Aside0 (impl_usedBy.l0 kq l0 x5_1 x6_1 x7_1 = some r) ∧ Aside0 (kq ≤ k) ∧ Aside0 (Kd.R Kd.bool 4 w' w.heap.size (fun k_ => some k_ ≠ (v202 : Value).ownBlock) (.slice (some ⟨go10, 0, none⟩) y198.length co10) x5_1) ∧ Aside0 (Kd.R Kd.bool 4 w' w.heap.size (fun k_ => some k_ ≠ ((.slice (some ⟨go10, 0, none⟩) y198.length co10) : Value).ownBlock) v202 x6_1) ∧ Aside0 (Below w.heap.size w w'))
              case atStart => exact ⟨(y204), (y201), (ji7), (by first | rfl | (simp; done) | (simp only [← hji7] <;> (first | rfl | simp)) | (simp [*]; done)), H', ⟨Nat.le_refl _⟩, ⟨by (with_reducible repeat (first | apply Kd.R_alloc | apply Kd.R_drewN | apply Kd.R_drew)); exact HO200.out⟩, ⟨by (with_reducible repeat (first | apply Kd.R_alloc | apply Kd.R_drewN | apply Kd.R_drew)); exact Kd.R_mono HO203.out (fun _ hk => hk.2)⟩, ⟨by repeat (first | (with_reducible first | exact HB.out | apply below_alloc | apply pw_below_drewN | apply below_drew1) | exact HB.out)⟩⟩
              case round =>
                clear H'
                try clear p1
                try clear q1
                try clear hx1
                try clear p2
                try clear c3
                try clear c3b0
                try clear c3b1
                try clear c4
                try clear c4b0
                try clear c4b1
                try clear c5
                try clear c5b0
                try clear c5b1
                try clear c6
                try clear c6b0
                try clear c6b1
                try clear p6
                try clear c8
                try clear c8b0
                try clear c9
                try clear c9b0
                try clear p10
                try clear q10
                try clear hx10
                try clear hf10
                try clear hx10_0
                try clear p10
                try clear q10
                obtain ⟨x5_1, x6_1, x7_1, rfl, HA, HK1, HO_5, HO_6, HB⟩ := hrel
                have hl5_1 := (Kd.R_reads' HO_5.out).1
                rw [hl5_1] at HO_5
                (try simp only [hl5_1])
                (try simp only [hl5_1] at HO_6)
                cases gk with
                | zero => exact absurd HA.out (by simp [impl_usedBy.l0])
                | succ k1 =>
                  have H := HA.out
                  clear HA
                  simp only [impl_usedBy.l0] at H
                  by_cases c17 : x7_1 ≥ 0
                  · rw [if_pos c17] at H
                    have c17b0 : decide (0 ≤ x7_1) = true := decide_eq_true c17
                    (try (have c17b0z := c17b0; simp only [hl5_1] at c17b0z))
                    clear c17
                    by_cases c18 : 0 ≤ x7_1
                    · rw [if_pos c18] at H
                      have c18b0 : decide (0 ≤ x7_1) = true := decide_eq_true c18
                      (try (have c18b0z := c18b0; simp only [hl5_1] at c18b0z))
                      clear c18
                      by_cases c19 : x7_1 < (l0.length : Int)
                      · rw [if_pos c19] at H
                        have c19b0 : decide (x7_1 < (l0.length : Int)) = true := decide_eq_true c19
                        (try (have c19b0z := c19b0; simp only [hl5_1] at c19b0z))
                        clear c19
                        have HC20 := Aside0.mk H
                        clear H
                        have p205 : 0 ≤ (x7_1 : Int) := of_decide_eq_true (by first | (with_reducible assumption) | assumption)
                        have q205 : x7_1 < (l0.length : Int) := of_decide_eq_true (by first | (with_reducible assumption) | assumption)
                        obtain ⟨ad205, e205, hx205_0, hx205_1, hx205_2, hx205_3⟩ := at_T48 HR0.out x7_1 p205 q205
                        cases e205
                        replace hx205_0 := (HB.out.cell (World.block_lt_of_cell? w _ hx205_0)).trans hx205_0
                        replace hx205_1 := (HB.out.cell (World.block_lt_of_cell? w _ hx205_1)).trans hx205_1
                        replace hx205_2 := (HB.out.cell (World.block_lt_of_cell? w _ hx205_2)).trans hx205_2
                        replace hx205_3 := (HB.out.cell (World.block_lt_of_cell? w _ hx205_3)).trans hx205_3
                        replace p205 := eq_true p205
                        replace q205 := eq_true q205
                        go_upto_region 9 with (first | ((with_reducible refine gate_dst (N := 8) rfl ?_); refine box_event ?hg (N := 8) ?hd (cs := #[.int .i64 0, .int .i64 0, .int .i64 0, .int .i64 0]) (t := 48) ?hr ?_; (case hd => rfl); (case hg => rfl); (case hr => first | (go_simp; done) | (go_simp; rfl)); intro gb206 hg w21 hbox hb; have n0_ := Aside0.mk (Kd.R_below (by (with_reducible repeat (first | apply Kd.R_alloc | apply Kd.R_drewN | apply Kd.R_drew)); exact HO_5.out) hb); have n1_ := Aside0.mk (Kd.R_below (by (with_reducible repeat (first | apply Kd.R_alloc | apply Kd.R_drewN | apply Kd.R_drew)); exact HO_6.out) hb); have n2_ := Aside0.mk (below_step (by repeat (first | (with_reducible first | exact HB.out | apply below_alloc | apply pw_below_drewN | apply below_drew1) | exact HB.out)) hb); have n3_ := Aside0.mk (hbox); have n4_ := Aside0.mk ((by rw [hg]; exact (below_size (by repeat (first | (with_reducible first | exact HB.out | apply below_alloc | apply pw_below_drewN | apply below_drew1) | exact HB.out))) : w.heap.size ≤ gb206)); have n5_ := Aside0.mk ((by rw [hg]; exact (below_size (by repeat (first | (with_reducible first | exact HB.out | apply below_alloc | apply pw_below_drewN | apply below_drew1) | exact HB.out))) : w.heap.size ≤ gb206)); clear HO_5; clear HO_6; clear HB; have HO_5 := n0_; have HO_6 := n1_; have HB := n2_; have BK206 := n3_; have GW206 := n4_; have GE206 := n5_; clear n0_ n1_ n2_ n3_ n4_ n5_; clear hb hbox hg; have hcz22_0 : w21.cell? ⟨gb206, 0, none⟩ = some (.int .i64 0) := (blk_cell BK206.out 0).trans rfl; have hcz22_1 : w21.cell? ⟨gb206, 1, none⟩ = some (.int .i64 0) := (blk_cell BK206.out 1).trans rfl; have hcz22_2 : w21.cell? ⟨gb206, 2, none⟩ = some (.int .i64 0) := (blk_cell BK206.out 2).trans rfl; have hcz22_3 : w21.cell? ⟨gb206, 3, none⟩ = some (.int .i64 0) := (blk_cell BK206.out 3).trans rfl; have hfz22_0 := blk_frozen BK206.out 0; have hfz22_1 := blk_frozen BK206.out 1; have hfz22_2 := blk_frozen BK206.out 2; have hfz22_3 := blk_frozen BK206.out 3))
                        (try simp only [Act.put, List.setIfInBounds_toArray, List.set_cons_zero, List.set_cons_succ])
                        go_cut [41] (fun v41 wc => ∃ (kq : Nat) (x41_19 : Bool), v41 = .bool x41_19 ∧ Aside0 (impl_usedBy.j1 kq l0 x5_1 x6_1 x7_1 x41_19 ((rd_T48 l0 x7_1).f0) ((rd_T48 l0 x7_1).f1) ((rd_T48 l0 x7_1).f2) ((rd_T48 l0 x7_1).f3) = some r) ∧ Aside0 (kq ≤ k1) ∧ Aside0 (Kd.R Kd.bool 4 wc w.heap.size (fun k_ => some k_ ≠ (v202 : Value).ownBlock) (.slice (some ⟨go10, 0, none⟩) x5_1.length co10) x5_1) ∧ Aside0 (Kd.R Kd.bool 4 wc w.heap.size (fun k_ => some k_ ≠ ((.slice (some ⟨go10, 0, none⟩) x5_1.length co10) : Value).ownBlock) v202 x6_1) ∧ Aside0 (wc.heap[gb206]? = some (.cells #[.int .i64 ((rd_T48 l0 x7_1).f0), .int .i64 ((rd_T48 l0 x7_1).f1), .int .i64 ((rd_T48 l0 x7_1).f2), .int .i64 ((rd_T48 l0 x7_1).f3)] 48 (0, 0))) ∧ Aside0 (Below w.heap.size w wc))
                        case first =>
                          have H := HC20.out
                          clear HC20
                          by_cases c23 : x7_1 < (x5_1.length : Int)
                          · rw [if_pos c23] at H
                            have c23b0 : decide (x7_1 < (x5_1.length : Int)) = true := decide_eq_true c23
                            (try (have c23b0z := c23b0; simp only [hl5_1] at c23b0z))
                            clear c23
                            (first | rw [c23b0] | (simp only [i64_w, i32_w]; rw [c23b0]) | rw [c23b1] | simp only [c23b1] | skip)
                            obtain ⟨bq24, hbq24⟩ : ∃ b_ : Bool, b_ = (rdOf false x5_1 x7_1) := ⟨_, rfl⟩
                            replace H : (if bq24 = true then (impl_usedBy.j1 k1 l0 x5_1 x6_1 x7_1 (((rd_T48 l0 x7_1).f0) == 0) ((rd_T48 l0 x7_1).f0) ((rd_T48 l0 x7_1).f1) ((rd_T48 l0 x7_1).f2) ((rd_T48 l0 x7_1).f3)) else (impl_usedBy.j1 k1 l0 x5_1 x6_1 x7_1 true ((rd_T48 l0 x7_1).f0) ((rd_T48 l0 x7_1).f1) ((rd_T48 l0 x7_1).f2) ((rd_T48 l0 x7_1).f3))) = some r := by rw [← hbq24] at H; exact H
                            have Nbq24 := Aside0.mk hbq24
                            clear hbq24
                            by_cases c25 : bq24 = true
                            · subst c25
                              have H1 : (impl_usedBy.j1 k1 l0 x5_1 x6_1 x7_1 (((rd_T48 l0 x7_1).f0) == 0) ((rd_T48 l0 x7_1).f0) ((rd_T48 l0 x7_1).f1) ((rd_T48 l0 x7_1).f2) ((rd_T48 l0 x7_1).f3)) = some r := by rw [if_pos rfl] at H; exact H
                              clear H
                              have H := H1
                              clear H1
                              have H' := Aside0.mk H
                              clear H
                              have p207 : 0 ≤ (x7_1 : Int) := of_decide_eq_true (by first | (with_reducible assumption) | assumption)
                              have q207 : x7_1 < (x5_1.length : Int) := of_decide_eq_true (by first | (with_reducible assumption) | assumption)
                              obtain ⟨ad207, e207, hx207_0⟩ := Kd.at_bool (Kd.R_reads' HO_5.out).2.2 x7_1 p207 q207
                              (try rw [← Nbq24.out] at hx207_0)
                              obtain rfl : (⟨go10, 0, none⟩ : Addr) = ad207 := (by injection e207)
                              (first | simp only [add_plain] at hx207_0 | simp only [add_at] at hx207_0 | simp only [Addr.add, Nat.zero_add] at hx207_0 | skip)
                              have hn207_0 : (⟨go10, 0, none⟩ : Addr).block ≠ gb206 := Kd.own_blk (Kd.R_ne HO_5.out BK206.out (by decide))
                              have hn207_1 : (⟨go10, 0, none⟩ : Addr).block ≠ gb206 := Kd.own_blk (Kd.R_ne HO_5.out BK206.out (by decide))
                              have hn207_2 : (⟨go10, 0, none⟩ : Addr).block ≠ gb206 := Kd.own_blk (Kd.R_ne HO_5.out BK206.out (by decide))
                              have hn207_3 : (⟨go10, 0, none⟩ : Addr).block ≠ gb206 := Kd.own_blk (Kd.R_ne HO_5.out BK206.out (by decide))
                              replace hx207_0 := (cell_far (p := ⟨gb206, 0, none⟩) (by first | (rw [add_block]; exact hn207_0) | (show (Addr.add _ _).block ≠ _; rw [add_block]; exact hn207_0) | exact hn207_0) (.int .i64 ((rd_T48 l0 x7_1).f0))).trans hx207_0
                              replace hx207_0 := (cell_far (p := ⟨gb206, 1, none⟩) (by first | (rw [add_block]; exact hn207_1) | (show (Addr.add _ _).block ≠ _; rw [add_block]; exact hn207_1) | exact hn207_1) (.int .i64 ((rd_T48 l0 x7_1).f1))).trans hx207_0
                              replace hx207_0 := (cell_far (p := ⟨gb206, 2, none⟩) (by first | (rw [add_block]; exact hn207_2) | (show (Addr.add _ _).block ≠ _; rw [add_block]; exact hn207_2) | exact hn207_2) (.int .i64 ((rd_T48 l0 x7_1).f2))).trans hx207_0
                              replace hx207_0 := (cell_far (p := ⟨gb206, 3, none⟩) (by first | (rw [add_block]; exact hn207_3) | (show (Addr.add _ _).block ≠ _; rw [add_block]; exact hn207_3) | exact hn207_3) (.int .i64 ((rd_T48 l0 x7_1).f3))).trans hx207_0
                              clear hn207_0
                              clear hn207_1
                              clear hn207_2
                              clear hn207_3
                              replace p207 := eq_true p207
                              replace q207 := eq_true q207
                              have hcz26_0 : w21.cell? ⟨gb206, 0, none⟩ = some (.int .i64 0) := (blk_cell BK206.out 0).trans rfl
                              have hcz26_1 : w21.cell? ⟨gb206, 1, none⟩ = some (.int .i64 0) := (blk_cell BK206.out 1).trans rfl
                              have hcz26_2 : w21.cell? ⟨gb206, 2, none⟩ = some (.int .i64 0) := (blk_cell BK206.out 2).trans rfl
                              have hcz26_3 : w21.cell? ⟨gb206, 3, none⟩ = some (.int .i64 0) := (blk_cell BK206.out 3).trans rfl
                              have hfz26_0 := blk_frozen BK206.out 0
                              have hfz26_1 := blk_frozen BK206.out 1
                              have hfz26_2 := blk_frozen BK206.out 2
                              have hfz26_3 := blk_frozen BK206.out 3
                              go_wp2
                              go_meet
                              case rel => exact ⟨_, ((((rd_T48 l0 x7_1).f0) == 0)), (by first | rfl | (simp; done) | (simp [*]; done)), H', ⟨by have := HK1.out; first | omega | exact Nat.le_refl _⟩, ⟨by (try simp only [hl5_1]); (with_reducible repeat (first | apply Kd.R_alloc | apply Kd.R_drewN | apply Kd.R_drew)); exact Kd.R_mono (Kd.R_far (p := ⟨gb206, 3, none⟩) (Kd.R_far (p := ⟨gb206, 2, none⟩) (Kd.R_far (p := ⟨gb206, 1, none⟩) (Kd.R_far (p := ⟨gb206, 0, none⟩) (Kd.R_types HO_5.out BK206.out (by decide)) (fun _ hk => hk.2) (.int .i64 ((rd_T48 l0 x7_1).f0))) (fun _ hk => hk.2) (.int .i64 ((rd_T48 l0 x7_1).f1))) (fun _ hk => hk.2) (.int .i64 ((rd_T48 l0 x7_1).f2))) (fun _ hk => hk.2) (.int .i64 ((rd_T48 l0 x7_1).f3))) (fun _ hk => hk.1)⟩, ⟨by (try simp only [hl5_1]); (with_reducible repeat (first | apply Kd.R_alloc | apply Kd.R_drewN | apply Kd.R_drew)); exact Kd.R_mono (Kd.R_far (p := ⟨gb206, 3, none⟩) (Kd.R_far (p := ⟨gb206, 2, none⟩) (Kd.R_far (p := ⟨gb206, 1, none⟩) (Kd.R_far (p := ⟨gb206, 0, none⟩) (Kd.R_types HO_6.out BK206.out (by decide)) (fun _ hk => hk.2) (.int .i64 ((rd_T48 l0 x7_1).f0))) (fun _ hk => hk.2) (.int .i64 ((rd_T48 l0 x7_1).f1))) (fun _ hk => hk.2) (.int .i64 ((rd_T48 l0 x7_1).f2))) (fun _ hk => hk.2) (.int .i64 ((rd_T48 l0 x7_1).f3))) (fun _ hk => hk.1)⟩, ⟨by (try simp only [hl5_1]); (with_reducible repeat (first | refine blk_drewN ?_ _ | refine blk_drew ?_ | refine blk_alloc ?_ _)); refine blk_put (cs := #[.int .i64 ((rd_T48 l0 x7_1).f0), .int .i64 ((rd_T48 l0 x7_1).f1), .int .i64 ((rd_T48 l0 x7_1).f2), .int .i64 0]) ?_ 3 _ rfl; (with_reducible repeat (first | refine blk_drewN ?_ _ | refine blk_drew ?_ | refine blk_alloc ?_ _)); refine blk_put (cs := #[.int .i64 ((rd_T48 l0 x7_1).f0), .int .i64 ((rd_T48 l0 x7_1).f1), .int .i64 0, .int .i64 0]) ?_ 2 _ rfl; (with_reducible repeat (first | refine blk_drewN ?_ _ | refine blk_drew ?_ | refine blk_alloc ?_ _)); refine blk_put (cs := #[.int .i64 ((rd_T48 l0 x7_1).f0), .int .i64 0, .int .i64 0, .int .i64 0]) ?_ 1 _ rfl; (with_reducible repeat (first | refine blk_drewN ?_ _ | refine blk_drew ?_ | refine blk_alloc ?_ _)); refine blk_put (cs := #[.int .i64 0, .int .i64 0, .int .i64 0, .int .i64 0]) ?_ 0 _ rfl; (with_reducible repeat (first | refine blk_drewN ?_ _ | refine blk_drew ?_ | refine blk_alloc ?_ _)); exact BK206.out⟩, ⟨by repeat (first | (with_reducible first | exact HB.out | apply below_alloc | apply pw_below_drewN | apply below_drew1 | refine below_set ?_ GE206.out) | exact HB.out)⟩⟩
                            · replace c25 := Bool.eq_false_iff.mpr c25
                              subst c25
                              have H1 : (impl_usedBy.j1 k1 l0 x5_1 x6_1 x7_1 true ((rd_T48 l0 x7_1).f0) ((rd_T48 l0 x7_1).f1) ((rd_T48 l0 x7_1).f2) ((rd_T48 l0 x7_1).f3)) = some r := by rw [if_neg (show ¬ (false = true) by decide)] at H; exact H
                              clear H
                              have H := H1
                              clear H1
                              have H' := Aside0.mk H
                              clear H
                              have p207 : 0 ≤ (x7_1 : Int) := of_decide_eq_true (by first | (with_reducible assumption) | assumption)
                              have q207 : x7_1 < (x5_1.length : Int) := of_decide_eq_true (by first | (with_reducible assumption) | assumption)
                              obtain ⟨ad207, e207, hx207_0⟩ := Kd.at_bool (Kd.R_reads' HO_5.out).2.2 x7_1 p207 q207
                              (try rw [← Nbq24.out] at hx207_0)
                              obtain rfl : (⟨go10, 0, none⟩ : Addr) = ad207 := (by injection e207)
                              (first | simp only [add_plain] at hx207_0 | simp only [add_at] at hx207_0 | simp only [Addr.add, Nat.zero_add] at hx207_0 | skip)
                              have hn207_0 : (⟨go10, 0, none⟩ : Addr).block ≠ gb206 := Kd.own_blk (Kd.R_ne HO_5.out BK206.out (by decide))
                              have hn207_1 : (⟨go10, 0, none⟩ : Addr).block ≠ gb206 := Kd.own_blk (Kd.R_ne HO_5.out BK206.out (by decide))
                              have hn207_2 : (⟨go10, 0, none⟩ : Addr).block ≠ gb206 := Kd.own_blk (Kd.R_ne HO_5.out BK206.out (by decide))
                              have hn207_3 : (⟨go10, 0, none⟩ : Addr).block ≠ gb206 := Kd.own_blk (Kd.R_ne HO_5.out BK206.out (by decide))
                              replace hx207_0 := (cell_far (p := ⟨gb206, 0, none⟩) (by first | (rw [add_block]; exact hn207_0) | (show (Addr.add _ _).block ≠ _; rw [add_block]; exact hn207_0) | exact hn207_0) (.int .i64 ((rd_T48 l0 x7_1).f0))).trans hx207_0
                              replace hx207_0 := (cell_far (p := ⟨gb206, 1, none⟩) (by first | (rw [add_block]; exact hn207_1) | (show (Addr.add _ _).block ≠ _; rw [add_block]; exact hn207_1) | exact hn207_1) (.int .i64 ((rd_T48 l0 x7_1).f1))).trans hx207_0
                              replace hx207_0 := (cell_far (p := ⟨gb206, 2, none⟩) (by first | (rw [add_block]; exact hn207_2) | (show (Addr.add _ _).block ≠ _; rw [add_block]; exact hn207_2) | exact hn207_2) (.int .i64 ((rd_T48 l0 x7_1).f2))).trans hx207_0
                              replace hx207_0 := (cell_far (p := ⟨gb206, 3, none⟩) (by first | (rw [add_block]; exact hn207_3) | (show (Addr.add _ _).block ≠ _; rw [add_block]; exact hn207_3) | exact hn207_3) (.int .i64 ((rd_T48 l0 x7_1).f3))).trans hx207_0
                              clear hn207_0
                              clear hn207_1
                              clear hn207_2
                              clear hn207_3
                              replace p207 := eq_true p207
                              replace q207 := eq_true q207
                              go_wp2
                              go_meet
                              case rel => exact ⟨_, (true), (by first | rfl | (simp; done) | (simp [*]; done)), H', ⟨by have := HK1.out; first | omega | exact Nat.le_refl _⟩, ⟨by (try simp only [hl5_1]); (with_reducible repeat (first | apply Kd.R_alloc | apply Kd.R_drewN | apply Kd.R_drew)); exact Kd.R_mono (Kd.R_far (p := ⟨gb206, 3, none⟩) (Kd.R_far (p := ⟨gb206, 2, none⟩) (Kd.R_far (p := ⟨gb206, 1, none⟩) (Kd.R_far (p := ⟨gb206, 0, none⟩) (Kd.R_types HO_5.out BK206.out (by decide)) (fun _ hk => hk.2) (.int .i64 ((rd_T48 l0 x7_1).f0))) (fun _ hk => hk.2) (.int .i64 ((rd_T48 l0 x7_1).f1))) (fun _ hk => hk.2) (.int .i64 ((rd_T48 l0 x7_1).f2))) (fun _ hk => hk.2) (.int .i64 ((rd_T48 l0 x7_1).f3))) (fun _ hk => hk.1)⟩, ⟨by (try simp only [hl5_1]); (with_reducible repeat (first | apply Kd.R_alloc | apply Kd.R_drewN | apply Kd.R_drew)); exact Kd.R_mono (Kd.R_far (p := ⟨gb206, 3, none⟩) (Kd.R_far (p := ⟨gb206, 2, none⟩) (Kd.R_far (p := ⟨gb206, 1, none⟩) (Kd.R_far (p := ⟨gb206, 0, none⟩) (Kd.R_types HO_6.out BK206.out (by decide)) (fun _ hk => hk.2) (.int .i64 ((rd_T48 l0 x7_1).f0))) (fun _ hk => hk.2) (.int .i64 ((rd_T48 l0 x7_1).f1))) (fun _ hk => hk.2) (.int .i64 ((rd_T48 l0 x7_1).f2))) (fun _ hk => hk.2) (.int .i64 ((rd_T48 l0 x7_1).f3))) (fun _ hk => hk.1)⟩, ⟨by (try simp only [hl5_1]); (with_reducible repeat (first | refine blk_drewN ?_ _ | refine blk_drew ?_ | refine blk_alloc ?_ _)); refine blk_put (cs := #[.int .i64 ((rd_T48 l0 x7_1).f0), .int .i64 ((rd_T48 l0 x7_1).f1), .int .i64 ((rd_T48 l0 x7_1).f2), .int .i64 0]) ?_ 3 _ rfl; (with_reducible repeat (first | refine blk_drewN ?_ _ | refine blk_drew ?_ | refine blk_alloc ?_ _)); refine blk_put (cs := #[.int .i64 ((rd_T48 l0 x7_1).f0), .int .i64 ((rd_T48 l0 x7_1).f1), .int .i64 0, .int .i64 0]) ?_ 2 _ rfl; (with_reducible repeat (first | refine blk_drewN ?_ _ | refine blk_drew ?_ | refine blk_alloc ?_ _)); refine blk_put (cs := #[.int .i64 ((rd_T48 l0 x7_1).f0), .int .i64 0, .int .i64 0, .int .i64 0]) ?_ 1 _ rfl; (with_reducible repeat (first | refine blk_drewN ?_ _ | refine blk_drew ?_ | refine blk_alloc ?_ _)); refine blk_put (cs := #[.int .i64 0, .int .i64 0, .int .i64 0, .int .i64 0]) ?_ 0 _ rfl; (with_reducible repeat (first | refine blk_drewN ?_ _ | refine blk_drew ?_ | refine blk_alloc ?_ _)); exact BK206.out⟩, ⟨by repeat (first | (with_reducible first | exact HB.out | apply below_alloc | apply pw_below_drewN | apply below_drew1 | refine below_set ?_ GE206.out) | exact HB.out)⟩⟩
                          · rw [if_neg c23] at H
                            exact absurd H (by simp)
                        case rest =>
                          clear HC20
                          try clear c1
                          try clear p1
                          try clear q1
                          try clear hx1
                          try clear c2
                          try clear p2
                          try clear q2
                          try clear hx2
                          try clear c3
                          try clear c3b0
                          try clear c3b1
                          try clear c4
                          try clear c4b0
                          try clear c4b1
                          try clear c5
                          try clear c5b0
                          try clear c5b1
                          try clear c6
                          try clear c6b0
                          try clear c6b1
                          try clear p6
                          try clear c8
                          try clear c8b0
                          try clear c9
                          try clear c9b0
                          try clear p10
                          try clear q10
                          try clear hx10
                          try clear hf10
                          try clear c17
                          try clear c17b0
                          try clear c18
                          try clear c18b0
                          try clear c19
                          try clear c19b0
                          try clear p20
                          try clear q20
                          try clear hx20
                          try clear c23
                          try clear c23b0
                          try clear c23b1
                          try clear q24
                          try clear c25
                          try clear hcz22_0
                          try clear hcz22_1
                          try clear hcz22_2
                          try clear hcz22_3
                          try clear hcz26_0
                          try clear hcz26_1
                          try clear hcz26_2
                          try clear hcz26_3
                          try clear hfz22_0
                          try clear hfz22_1
                          try clear hfz22_2
                          try clear hfz22_3
                          try clear hfz26_0
                          try clear hfz26_1
                          try clear hfz26_2
                          try clear hfz26_3
                          try clear hx10_0
                          try clear hx205_0
                          try clear hx205_1
                          try clear hx205_2
                          try clear hx205_3
                          try clear hx207_0
                          try clear p1
                          try clear p10
                          try clear p2
                          try clear p205
                          try clear p207
                          try clear p6
                          try clear q1
                          try clear q10
                          try clear q205
                          try clear q207
                          obtain ⟨kq, x41_19, rfl, HA, HJ19, HO_5, HO_6, BK206, HB⟩ := hcut
                          cases kq with
                          | zero => exact absurd HA.out (by simp [impl_usedBy.j1])
                          | succ kj19 =>
                            have H := HA.out
                            clear HA
                            simp only [impl_usedBy.j1] at H
                            by_cases c27 : x41_19 = true
                            · subst c27
                              have H1 : (impl_usedBy.l0 kj19 l0 x5_1 x6_1 (wrap64 (x7_1 - 1))) = some r := by rw [if_pos rfl] at H; exact H
                              clear H
                              have H := H1
                              clear H1
                              have H' := Aside0.mk H
                              clear H
                              go_wp2
                              (try simp only [← hl5_1])
                              go_roundg kj19
                              case measure => have := HK1.out; have := HJ19.out; omega
                              case rel => exact ⟨(x5_1), (x6_1), (wrap64 (x7_1 - 1)), (by first | rfl | (simp; done) | (simp [*]; done)), H', ⟨by have := HK1.out; have := HJ19.out; omega⟩, ⟨by (try simp only [hl5_1]); (with_reducible repeat (first | apply Kd.R_alloc | apply Kd.R_drewN | apply Kd.R_drew)); exact HO_5.out⟩, ⟨by (try simp only [hl5_1]); (with_reducible repeat (first | apply Kd.R_alloc | apply Kd.R_drewN | apply Kd.R_drew)); exact HO_6.out⟩, ⟨by repeat (first | (with_reducible first | exact HB.out | apply below_alloc | apply pw_below_drewN | apply below_drew1 | refine below_set ?_ GE206.out) | exact HB.out)⟩⟩
                            · replace c27 := Bool.eq_false_iff.mpr c27
                              subst c27
                              have H1 : (if ((rd_T48 l0 x7_1).f0) = 1 then (if 0 ≤ ((rd_T48 l0 x7_1).f1) then (if ((rd_T48 l0 x7_1).f1) < (x6_1.length : Int) then (impl_usedBy.l0 kj19 l0 x5_1 (x6_1.set (((rd_T48 l0 x7_1).f1) : Int).toNat true) (wrap64 (x7_1 - 1))) else (none)) else (none)) else (if 0 ≤ ((rd_T48 l0 x7_1).f2) then (if ((rd_T48 l0 x7_1).f2) < (x5_1.length : Int) then (if 0 ≤ ((rd_T48 l0 x7_1).f3) then (if ((rd_T48 l0 x7_1).f3) < (x5_1.length : Int) then (impl_usedBy.l0 kj19 l0 ((x5_1.set (((rd_T48 l0 x7_1).f2) : Int).toNat true).set (((rd_T48 l0 x7_1).f3) : Int).toNat true) x6_1 (wrap64 (x7_1 - 1))) else (none)) else (none)) else (none)) else (none))) = some r := by rw [if_neg (show ¬ (false = true) by decide)] at H; exact H
                              clear H
                              have H := H1
                              clear H1
                              by_cases c28 : ((rd_T48 l0 x7_1).f0) = 1
                              · rw [if_pos c28] at H
                                have c28b0 : (((rd_T48 l0 x7_1).f0) == 1) = true := beq_iff_eq.mpr c28
                                have c28b1 : (((rd_T48 l0 x7_1).f0) != 1) = false := bne_eq_false_iff_eq.mpr c28
                                (try (have c28b0z := c28b0; simp only [hl5_1] at c28b0z))
                                clear c28
                                by_cases c29 : 0 ≤ ((rd_T48 l0 x7_1).f1)
                                · rw [if_pos c29] at H
                                  have c29b0 : decide (0 ≤ ((rd_T48 l0 x7_1).f1)) = true := decide_eq_true c29
                                  (try (have c29b0z := c29b0; simp only [hl5_1] at c29b0z))
                                  clear c29
                                  by_cases c30 : ((rd_T48 l0 x7_1).f1) < (x6_1.length : Int)
                                  · rw [if_pos c30] at H
                                    have c30b0 : decide (((rd_T48 l0 x7_1).f1) < (x6_1.length : Int)) = true := decide_eq_true c30
                                    (try (have c30b0z := c30b0; simp only [hl5_1] at c30b0z))
                                    clear c30
                                    obtain ⟨y208, hy208⟩ : ∃ y_ : List Bool, y_ = (x6_1.set (((rd_T48 l0 x7_1).f1) : Int).toNat true) := ⟨_, rfl⟩
                                    replace H : (impl_usedBy.l0 kj19 l0 x5_1 y208 (wrap64 (x7_1 - 1))) = some r := by first | (rw [hy208]; with_reducible exact H) | (have H2_ := (Option.bind_some _ _).symm.trans H; rw [hy208]; with_reducible exact H2_) | (have H2_ := (Option.bind_some _ _).symm.trans H; with_reducible exact H2_) | with_reducible exact H | (rw [hy208]; exact H) | exact H
                                    have Ny208 := Aside0.mk hy208
                                    clear hy208
                                    have H' := Aside0.mk H
                                    clear H
                                    have hcz32_0 : wc.cell? ⟨gb206, 0, none⟩ = some (.int .i64 ((rd_T48 l0 x7_1).f0)) := (blk_cell BK206.out 0).trans rfl
                                    have hcz32_1 : wc.cell? ⟨gb206, 1, none⟩ = some (.int .i64 ((rd_T48 l0 x7_1).f1)) := (blk_cell BK206.out 1).trans rfl
                                    have hcz32_2 : wc.cell? ⟨gb206, 2, none⟩ = some (.int .i64 ((rd_T48 l0 x7_1).f2)) := (blk_cell BK206.out 2).trans rfl
                                    have hcz32_3 : wc.cell? ⟨gb206, 3, none⟩ = some (.int .i64 ((rd_T48 l0 x7_1).f3)) := (blk_cell BK206.out 3).trans rfl
                                    have hfz32_0 := blk_frozen BK206.out 0
                                    have hfz32_1 := blk_frozen BK206.out 1
                                    have hfz32_2 := blk_frozen BK206.out 2
                                    have hfz32_3 := blk_frozen BK206.out 3
                                    have p31 : 0 ≤ (((rd_T48 l0 x7_1).f1) : Int) := of_decide_eq_true (by first | (with_reducible assumption) | assumption)
                                    have q31 : (((rd_T48 l0 x7_1).f1) : Int) < ((x6_1.length : Int) : Int) := of_decide_eq_true (by first | (with_reducible assumption) | assumption)
                                    obtain ⟨go31, co31, eo31, gb31, gl31, cl31, HG31⟩ := Kd.R_form HO_6.out (by omega)
                                    (first | cases eo31 | (injection eo31 with ea_ en_ ec_; (first | subst ea_ | (injection ea_ with ea_; subst ea_)); subst ec_; clear en_))
                                    have GB31 := Aside0.mk gb31
                                    have GG31 := Aside0.mk HG31
                                    clear gb31 gl31 HG31
                                    obtain ⟨hx31_0, hf31_0⟩ := Kd.R_celln false HO_6.out (((rd_T48 l0 x7_1).f1) : Int) p31 q31
                                    replace p31 := eq_true p31
                                    replace q31 := eq_true q31
                                    have HP33 := Kd.R_putg HO_6.out (((rd_T48 l0 x7_1).f1) : Int) true
                                    go_wp2_with (first | ((with_reducible refine gate_store (t := 4) (p := 59) rfl ?_); refine store_event (t := 4) (p := 59) (v := ?vo_w34) (w1 := (wc.setCell ⟨go31, (((rd_T48 l0 x7_1).f1) : Int).toNat, none⟩ (.bool true))) ?hg ?ho ?hn ?hr ?_; (case ho => rfl); (case hg => rfl); (case hn => rfl); (case hr => first | (go_simp; done) | (go_simp; rfl)); intro w34 hw; have hg : wc.grownBy w34 (some go31) := (by rw [hw]; exact HP33.2); have hp_ : Kd.R Kd.bool 4 w34 w.heap.size (fun k_ => some k_ ≠ (.slice (some ⟨go10, 0, none⟩) x5_1.length co10 : Value).ownBlock) (.slice (some ⟨go31, 0, none⟩) x6_1.length co31) y208 := (by rw [hw, Ny208.out]; exact HP33.1); clear HP33; have n0_ := Aside0.mk (Kd.R_after (v := (.slice (some ⟨go31, 0, none⟩) x6_1.length co31)) (v1 := (.slice (some ⟨go31, 0, none⟩) x6_1.length co31)) (ok := (fun _ => True)) (by (with_reducible repeat (first | apply Kd.R_alloc | apply Kd.R_drewN | apply Kd.R_drew)); exact Kd.R_mono HO_5.out (fun _ hk => ⟨trivial, hk⟩)) hg (.inl rfl)); have n1_ := Aside0.mk (hp_); have n2_ := Aside0.mk (blk_grown (g := gb206) (o := .cells #[.int .i64 ((rd_T48 l0 x7_1).f0), .int .i64 ((rd_T48 l0 x7_1).f1), .int .i64 ((rd_T48 l0 x7_1).f2), .int .i64 ((rd_T48 l0 x7_1).f3)] 48 (0, 0)) (by (with_reducible repeat (first | refine blk_drewN ?_ _ | refine blk_drew ?_ | refine blk_alloc ?_ _)); exact BK206.out) hg (Kd.R_ne HO_6.out BK206.out (by decide))); have n3_ := Aside0.mk ((by rw [hw]; exact below_set (HB.out) GB31.out : Below w.heap.size w w34)); clear HO_5; clear HO_6; clear BK206; clear HB; have HO_5 := n0_; have HO_6 := n1_; have BK206 := n2_; have HB := n3_; clear n0_ n1_ n2_ n3_; clear hg hw hp_))
                                    (try simp only [← hl5_1])
                                    go_roundg kj19
                                    case measure => have := HK1.out; have := HJ19.out; omega
                                    case rel => exact ⟨(x5_1), (y208), (wrap64 (x7_1 - 1)), (by first | rfl | (simp; done) | (simp [*]; done)), H', ⟨by have := HK1.out; have := HJ19.out; omega⟩, ⟨by (try simp only [hl5_1]); (with_reducible repeat (first | apply Kd.R_alloc | apply Kd.R_drewN | apply Kd.R_drew)); exact Kd.R_mono HO_5.out (fun _ hk => hk.2)⟩, ⟨by (try simp only [hl5_1]); (with_reducible repeat (first | apply Kd.R_alloc | apply Kd.R_drewN | apply Kd.R_drew)); exact HO_6.out⟩, ⟨by repeat (first | (with_reducible first | exact HB.out | apply below_alloc | apply pw_below_drewN | apply below_drew1 | refine below_set ?_ GE206.out) | exact HB.out)⟩⟩
                                  · rw [if_neg c30] at H
                                    exact absurd H (by simp)
                                · rw [if_neg c29] at H
                                  exact absurd H (by simp)
                              · rw [if_neg c28] at H
                                have c28b0 : (((rd_T48 l0 x7_1).f0) == 1) = false := beq_eq_false_iff_ne.mpr c28
                                have c28b1 : (((rd_T48 l0 x7_1).f0) != 1) = true := bne_iff_ne.mpr c28
                                (try (have c28b0z := c28b0; simp only [hl5_1] at c28b0z))
                                by_cases c35 : 0 ≤ ((rd_T48 l0 x7_1).f2)
                                · rw [if_pos c35] at H
                                  have c35b0 : decide (0 ≤ ((rd_T48 l0 x7_1).f2)) = true := decide_eq_true c35
                                  (try (have c35b0z := c35b0; simp only [hl5_1] at c35b0z))
                                  clear c35
                                  by_cases c36 : ((rd_T48 l0 x7_1).f2) < (x5_1.length : Int)
                                  · rw [if_pos c36] at H
                                    have c36b0 : decide (((rd_T48 l0 x7_1).f2) < (x5_1.length : Int)) = true := decide_eq_true c36
                                    (try (have c36b0z := c36b0; simp only [hl5_1] at c36b0z))
                                    clear c36
                                    obtain ⟨y209, hy209⟩ : ∃ y_ : List Bool, y_ = (x5_1.set (((rd_T48 l0 x7_1).f2) : Int).toNat true) := ⟨_, rfl⟩
                                    replace H : (if 0 ≤ ((rd_T48 l0 x7_1).f3) then (if ((rd_T48 l0 x7_1).f3) < (x5_1.length : Int) then (impl_usedBy.l0 kj19 l0 (y209.set (((rd_T48 l0 x7_1).f3) : Int).toNat true) x6_1 (wrap64 (x7_1 - 1))) else (none)) else (none)) = some r := by first | (rw [hy209]; with_reducible exact H) | (have H2_ := (Option.bind_some _ _).symm.trans H; rw [hy209]; with_reducible exact H2_) | (have H2_ := (Option.bind_some _ _).symm.trans H; with_reducible exact H2_) | with_reducible exact H | (rw [hy209]; exact H) | exact H
                                    have Ny209 := Aside0.mk hy209
                                    clear hy209
                                    by_cases c38 : 0 ≤ ((rd_T48 l0 x7_1).f3)
                                    · rw [if_pos c38] at H
                                      have c38b0 : decide (0 ≤ ((rd_T48 l0 x7_1).f3)) = true := decide_eq_true c38
                                      (try (have c38b0z := c38b0; simp only [hl5_1] at c38b0z))
                                      clear c38
                                      by_cases c39 : ((rd_T48 l0 x7_1).f3) < (x5_1.length : Int)
                                      · rw [if_pos c39] at H
                                        have c39b0 : decide (((rd_T48 l0 x7_1).f3) < (x5_1.length : Int)) = true := decide_eq_true c39
                                        (try (have c39b0z := c39b0; simp only [hl5_1] at c39b0z))
                                        clear c39
                                        obtain ⟨y210, hy210⟩ : ∃ y_ : List Bool, y_ = (y209.set (((rd_T48 l0 x7_1).f3) : Int).toNat true) := ⟨_, rfl⟩
                                        replace H : (impl_usedBy.l0 kj19 l0 y210 x6_1 (wrap64 (x7_1 - 1))) = some r := by first | (rw [hy210]; with_reducible exact H) | (have H2_ := (Option.bind_some _ _).symm.trans H; rw [hy210]; with_reducible exact H2_) | (have H2_ := (Option.bind_some _ _).symm.trans H; with_reducible exact H2_) | with_reducible exact H | (rw [hy210]; exact H) | exact H
                                        have Ny210 := Aside0.mk hy210
                                        clear hy210
                                        have H' := Aside0.mk H
                                        clear H
                                        have hcz41_0 : wc.cell? ⟨gb206, 0, none⟩ = some (.int .i64 ((rd_T48 l0 x7_1).f0)) := (blk_cell BK206.out 0).trans rfl
                                        have hcz41_1 : wc.cell? ⟨gb206, 1, none⟩ = some (.int .i64 ((rd_T48 l0 x7_1).f1)) := (blk_cell BK206.out 1).trans rfl
                                        have hcz41_2 : wc.cell? ⟨gb206, 2, none⟩ = some (.int .i64 ((rd_T48 l0 x7_1).f2)) := (blk_cell BK206.out 2).trans rfl
                                        have hcz41_3 : wc.cell? ⟨gb206, 3, none⟩ = some (.int .i64 ((rd_T48 l0 x7_1).f3)) := (blk_cell BK206.out 3).trans rfl
                                        have hfz41_0 := blk_frozen BK206.out 0
                                        have hfz41_1 := blk_frozen BK206.out 1
                                        have hfz41_2 := blk_frozen BK206.out 2
                                        have hfz41_3 := blk_frozen BK206.out 3
                                        try go_wp2
                                        have n0_ := Aside0.mk (Kd.R_drew HO_5.out)
                                        have n1_ := Aside0.mk (Kd.R_drew HO_6.out)
                                        have n2_ := Aside0.mk (blk_drew BK206.out)
                                        have n3_ := Aside0.mk (below_drew1 HB.out)
                                        clear HO_5
                                        clear HO_6
                                        clear BK206
                                        clear HB
                                        have HO_5 := n0_
                                        have HO_6 := n1_
                                        have BK206 := n2_
                                        have HB := n3_
                                        clear n0_ n1_ n2_ n3_
                                        have p37 : 0 ≤ (((rd_T48 l0 x7_1).f2) : Int) := of_decide_eq_true (by first | (with_reducible assumption) | assumption)
                                        have q37 : (((rd_T48 l0 x7_1).f2) : Int) < ((x5_1.length : Int) : Int) := of_decide_eq_true (by first | (with_reducible assumption) | assumption)
                                        obtain ⟨hx37_0, hf37_0⟩ := Kd.R_celln false HO_5.out (((rd_T48 l0 x7_1).f2) : Int) p37 q37
                                        replace p37 := eq_true p37
                                        replace q37 := eq_true q37
                                        have HP43 := Kd.R_putn HO_5.out (((rd_T48 l0 x7_1).f2) : Int) true
                                        rw [← Ny209.out] at HP43
                                        have HQ43 := Aside0.mk HP43
                                        clear HP43
                                        have p40 : 0 ≤ (((rd_T48 l0 x7_1).f3) : Int) := of_decide_eq_true (by first | (with_reducible assumption) | assumption)
                                        have q40 : (((rd_T48 l0 x7_1).f3) : Int) < ((x5_1.length : Int) : Int) := of_decide_eq_true (by first | (with_reducible assumption) | assumption)
                                        obtain ⟨hx40_0, hf40_0⟩ := Kd.R_celln false HQ43.out (((rd_T48 l0 x7_1).f3) : Int) p40 q40
                                        replace p40 := eq_true p40
                                        replace q40 := eq_true q40
                                        have HP44 := Kd.R_putn HQ43.out (((rd_T48 l0 x7_1).f3) : Int) true
                                        rw [← Ny210.out] at HP44
                                        have HQ44 := Aside0.mk HP44
                                        clear HP44
                                        refine start_ (n := 10) (S := fun w' => w'.cell? ⟨gb206, 0, none⟩ = some (.int .i64 ((rd_T48 l0 x7_1).f0)) ∧ w'.cell? ⟨gb206, 1, none⟩ = some (.int .i64 ((rd_T48 l0 x7_1).f1)) ∧ w'.cell? ⟨gb206, 2, none⟩ = some (.int .i64 ((rd_T48 l0 x7_1).f2)) ∧ w'.cell? ⟨gb206, 3, none⟩ = some (.int .i64 ((rd_T48 l0 x7_1).f3))) (ds := [9]) #[false, false, false, false, false, false, false, false, false, false] (by kernel_rfl) rfl rfl ⟨(blk_cell BK206.out 0).trans rfl, (blk_cell BK206.out 1).trans rfl, (blk_cell BK206.out 2).trans rfl, (blk_cell BK206.out 3).trans rfl⟩ (fun hHeld => ?_); refine with_tabW impl_usedBy.tab8 impl_usedBy.bits8 (fun HT_ HW_ => ?_)
                                        generalize wc.drew = w42 at HO_5 HO_6 BK206 HB HQ43 HQ44 hf37_0 hf40_0 hx37_0 hx40_0 hHeld ⊢
                                        refine pure_ (i := 0) (N := some 33) (v := ?_) (a' := ?_) #[true, false, false, false, false, false, false, false, false, false] rfl rfl (any_of HT_.out (by kernel_rfl)) (fun _ _ _ h => h) (Or.inl ⟨by rfl, ?_⟩) ?_ ?_
                                        rotate_left
                                        · intro w'
                                          go_simp
                                          with_reducible rfl
                                        rotate_left
                                        · simp only [Act.put, List.setIfInBounds_toArray, List.set_cons_zero, List.set_cons_succ, i64_w, i32_w]
                                          rfl
                                        refine pure_ (i := 1) (N := some 34) (v := ?_) (a' := ?_) #[true, true, false, false, false, false, false, false, false, false] rfl rfl (any_of HT_.out (by kernel_rfl)) (fun _ _ _ h => h) (Or.inl ⟨by rfl, ?_⟩) ?_ ?_
                                        rotate_left
                                        · intro w'
                                          go_simp
                                          with_reducible rfl
                                        rotate_left
                                        · simp only [Act.put, List.setIfInBounds_toArray, List.set_cons_zero, List.set_cons_succ, i64_w, i32_w]
                                          rfl
                                        refine pure_ (i := 3) (N := some 36) (v := ?_) (a' := ?_) #[true, true, false, true, false, false, false, false, false, false] rfl rfl (any_of HT_.out (by kernel_rfl)) (fun _ _ _ h => h) (Or.inl ⟨by rfl, ?_⟩) ?_ ?_
                                        rotate_left
                                        · intro w'
                                          go_simp
                                          with_reducible rfl
                                        rotate_left
                                        · simp only [Act.put, List.setIfInBounds_toArray, List.set_cons_zero, List.set_cons_succ, i64_w, i32_w]
                                          rfl
                                        refine pure_ (i := 4) (N := some 37) (v := ?_) (a' := ?_) #[true, true, false, true, true, false, false, false, false, false] rfl rfl (any_of HT_.out (by kernel_rfl)) (fun _ _ _ h => h) (Or.inl ⟨by rfl, ?_⟩) ?_ ?_
                                        rotate_left
                                        · intro w'
                                          go_simp
                                          with_reducible rfl
                                        rotate_left
                                        · simp only [Act.put, List.setIfInBounds_toArray, List.set_cons_zero, List.set_cons_succ, i64_w, i32_w]
                                          rfl
                                        refine take_ (i := 2) (N := some 35) (v := ?_) (a' := ?_) #[true, true, true, true, true, false, false, false, false, false] rfl rfl (take_ofW HT_.out HW_.out (by kernel_rfl)) (fun _ _ _ h => h) (Or.inl ⟨by rfl, ?_⟩) hHeld ?_ ?_
                                        rotate_left
                                        · rintro w' ⟨s0, s1, s2, s3⟩
                                          go_simp
                                          with_reducible rfl
                                        rotate_left
                                        · simp only [Act.put, List.setIfInBounds_toArray, List.set_cons_zero, List.set_cons_succ, i64_w, i32_w]
                                          rfl
                                        refine pure_ (i := 6) (N := some 39) (v := ?_) (a' := ?_) #[true, true, true, true, true, false, true, false, false, false] rfl rfl (any_of HT_.out (by kernel_rfl)) (fun _ _ _ h => h) (Or.inl ⟨by rfl, ?_⟩) ?_ ?_
                                        rotate_left
                                        · intro w'
                                          go_simp
                                          with_reducible rfl
                                        rotate_left
                                        · simp only [Act.put, List.setIfInBounds_toArray, List.set_cons_zero, List.set_cons_succ, i64_w, i32_w]
                                          rfl
                                        refine take_ (i := 5) (N := some 38) (v := ?_) (a' := ?_) #[true, true, true, true, true, true, true, false, false, false] rfl rfl (take_ofW HT_.out HW_.out (by kernel_rfl)) (fun _ _ _ h => h) (Or.inl ⟨by rfl, ?_⟩) hHeld ?_ ?_
                                        rotate_left
                                        · rintro w' ⟨s0, s1, s2, s3⟩
                                          go_simp
                                          with_reducible rfl
                                        rotate_left
                                        · simp only [Act.put, List.setIfInBounds_toArray, List.set_cons_zero, List.set_cons_succ, i64_w, i32_w]
                                          rfl
                                        refine one_ (i := 7) (N := none) #[true, true, true, true, true, true, true, true, false, false] rfl rfl (one_of HT_.out (by kernel_rfl)) (by decide) (fun K hK => ?_)
                                        refine skip_ (w1 := ?_) (by rfl) rfl ?_ ?_
                                        rotate_left
                                        · go_simp
                                          rfl
                                        refine hK.out _ _ ⟨((cell_far (p := ⟨go10, _, none⟩) (fun e_ => Kd.R_ne HO_5.out BK206.out (by decide) (congrArg some e_)) _).trans (hHeld.1)), ((cell_far (p := ⟨go10, _, none⟩) (fun e_ => Kd.R_ne HO_5.out BK206.out (by decide) (congrArg some e_)) _).trans (hHeld.2.1)), ((cell_far (p := ⟨go10, _, none⟩) (fun e_ => Kd.R_ne HO_5.out BK206.out (by decide) (congrArg some e_)) _).trans (hHeld.2.2.1)), ((cell_far (p := ⟨go10, _, none⟩) (fun e_ => Kd.R_ne HO_5.out BK206.out (by decide) (congrArg some e_)) _).trans (hHeld.2.2.2))⟩ (fun hHeld => ?_)
                                        clear hK K
                                        refine pure_ (i := 8) (N := some 40) (v := ?_) (a' := ?_) #[true, true, true, true, true, true, true, true, true, false] rfl rfl (any_of HT_.out (by kernel_rfl)) (fun _ _ _ h => h) (Or.inl ⟨by rfl, ?_⟩) ?_ ?_
                                        rotate_left
                                        · intro w'
                                          go_simp
                                          with_reducible rfl
                                        rotate_left
                                        · simp only [Act.put, List.setIfInBounds_toArray, List.set_cons_zero, List.set_cons_succ, i64_w, i32_w]
                                          rfl
                                        refine last_ (i := 9) (N := none) #[true, true, true, true, true, true, true, true, true, true] rfl rfl (one_of HT_.out (by kernel_rfl)) (by decide) (fun K hK => ?_)
                                        refine skip_ (w1 := ?_) (by rfl) rfl ?_ ?_
                                        rotate_left
                                        · go_simp
                                          rfl
                                        refine hK.out _ _ ?_
                                        clear hK K
                                        refine done_ (done_of HT_.out (by kernel_rfl)) ?_
                                        try go_wp2
                                        (try simp only [← hl5_1])
                                        go_roundg kj19
                                        case measure => have := HK1.out; have := HJ19.out; omega
                                        case rel => exact ⟨(y210), (x6_1), (wrap64 (x7_1 - 1)), (by first | rfl | (simp; done) | (simp [*]; done)), H', ⟨by have := HK1.out; have := HJ19.out; omega⟩, ⟨by (try simp only [hl5_1]); (with_reducible repeat (first | apply Kd.R_alloc | apply Kd.R_drewN | apply Kd.R_drew)); exact HQ44.out⟩, ⟨by (try simp only [hl5_1]); (with_reducible repeat (first | apply Kd.R_alloc | apply Kd.R_drewN | apply Kd.R_drew)); exact Kd.R_mono (Kd.R_far (p := ⟨go10, (((rd_T48 l0 x7_1).f3) : Int).toNat, none⟩) (Kd.R_far (p := ⟨go10, (((rd_T48 l0 x7_1).f2) : Int).toNat, none⟩) (Kd.R_mono HO_6.out (fun k_ hk => (⟨hk, fun e_ => hk (by rw [e_]; rfl)⟩ : _ ∧ k_ ≠ go10))) (fun _ hk => hk.2) (.bool true)) (fun _ hk => hk.2) (.bool true)) (fun _ hk => hk.1)⟩, ⟨by repeat (first | (with_reducible first | exact HB.out | apply below_alloc | apply pw_below_drewN | apply below_drew1 | refine below_set ?_ GB10.out | refine below_set ?_ GB10.out | refine below_set ?_ GE206.out) | exact HB.out)⟩⟩
                                      · rw [if_neg c39] at H
                                        exact absurd H (by simp)
                                    · rw [if_neg c38] at H
                                      exact absurd H (by simp)
                                  · rw [if_neg c36] at H
                                    exact absurd H (by simp)
                                · rw [if_neg c35] at H
                                  exact absurd H (by simp)
                      · rw [if_neg c19] at H
                        exact absurd H (by simp)
                    · rw [if_neg c18] at H
                      exact absurd H (by simp)
                  · rw [if_neg c17] at H
                    have c17b0 : decide (0 ≤ x7_1) = false := decide_eq_false c17
                    (try (have c17b0z := c17b0; simp only [hl5_1] at c17b0z))
                    clear c17
                    have H' := Aside0.mk H
                    clear H
                    obtain ⟨Ao45, co45, eo45⟩ := Kd.R_slice HO_6.out
                    subst eo45
                    go_wp2
                    go_loopg [9, 62] k1 (fun kq v9 v62 w' => ∃ (x9_2 : List Int) (x62_2 : Int), v62 = .int .i64 x62_2 ∧ Aside0 (impl_usedBy.l1 kq x9_2 x6_1 (x6_1.length : Int) x62_2 = some r) ∧ Aside0 (kq ≤ k1) ∧ Aside0 (Kd.R (Kd.int .i64) 3 w' w.heap.size (fun _ => True) v9 x9_2) ∧ Aside0 (Kd.R Kd.bool 4 w' w.heap.size (fun _ => True) (.slice Ao45 x6_1.length co45) x6_1) ∧ Aside0 (Below w.heap.size w w'))
                    case atStart => exact ⟨(([] : List Int)), (0), (by first | rfl | (simp; done) | (simp [*]; done)), H', ⟨Nat.le_refl _⟩, ⟨by (try simp only [hl5_1]); first | exact Kd.R_nil _ _ _ _ _ | exact Kd.N_nil _ _ _ _ _ | exact Kd.V_nil _ _ _ _ _ | exact Kd.Q_nil _ _ _ _ _ | exact Kd.S_nil _ _ _ _ _⟩, ⟨by (try simp only [hl5_1]); (with_reducible repeat (first | apply Kd.R_alloc | apply Kd.R_drewN | apply Kd.R_drew)); exact Kd.R_mono HO_6.out (fun _ hk => trivial)⟩, ⟨by repeat (first | (with_reducible first | exact HB.out | apply below_alloc | apply pw_below_drewN | apply below_drew1) | exact HB.out)⟩⟩
                    case round =>
                      clear H'
                      try clear c1
                      try clear p1
                      try clear q1
                      try clear hx1
                      try clear c2
                      try clear p2
                      try clear q2
                      try clear hx2
                      try clear c3
                      try clear c3b0
                      try clear c3b1
                      try clear p3
                      try clear q3
                      try clear hx3
                      try clear hf3
                      try clear c4
                      try clear c4b0
                      try clear c4b1
                      try clear p4
                      try clear q4
                      try clear hx4
                      try clear hf4
                      try clear c5
                      try clear c5b0
                      try clear c5b1
                      try clear c6
                      try clear c6b0
                      try clear c6b1
                      try clear p6
                      try clear c8
                      try clear c8b0
                      try clear c9
                      try clear c9b0
                      try clear p10
                      try clear q10
                      try clear hx10
                      try clear hf10
                      try clear c17
                      try clear c17b0
                      try clear c18
                      try clear c18b0
                      try clear c19
                      try clear c19b0
                      try clear p20
                      try clear q20
                      try clear hx20
                      try clear c23
                      try clear c23b0
                      try clear c23b1
                      try clear q24
                      try clear c25
                      try clear c27
                      try clear c28
                      try clear c28b0
                      try clear c28b1
                      try clear c29
                      try clear c29b0
                      try clear c30
                      try clear c30b0
                      try clear p31
                      try clear q31
                      try clear hx31
                      try clear hf31
                      try clear c35
                      try clear c35b0
                      try clear c36
                      try clear c36b0
                      try clear p37
                      try clear q37
                      try clear hx37
                      try clear hf37
                      try clear c38
                      try clear c38b0
                      try clear c39
                      try clear c39b0
                      try clear p40
                      try clear q40
                      try clear hx40
                      try clear hf40
                      try clear hcz22_0
                      try clear hcz22_1
                      try clear hcz22_2
                      try clear hcz22_3
                      try clear hcz26_0
                      try clear hcz26_1
                      try clear hcz26_2
                      try clear hcz26_3
                      try clear hcz32_0
                      try clear hcz32_1
                      try clear hcz32_2
                      try clear hcz32_3
                      try clear hcz41_0
                      try clear hcz41_1
                      try clear hcz41_2
                      try clear hcz41_3
                      try clear hfz22_0
                      try clear hfz22_1
                      try clear hfz22_2
                      try clear hfz22_3
                      try clear hfz26_0
                      try clear hfz26_1
                      try clear hfz26_2
                      try clear hfz26_3
                      try clear hfz32_0
                      try clear hfz32_1
                      try clear hfz32_2
                      try clear hfz32_3
                      try clear hfz41_0
                      try clear hfz41_1
                      try clear hfz41_2
                      try clear hfz41_3
                      try clear hx10_0
                      try clear hx205_0
                      try clear hx205_1
                      try clear hx205_2
                      try clear hx205_3
                      try clear hx207_0
                      try clear hx31_0
                      try clear hx37_0
                      try clear hx40_0
                      try clear p1
                      try clear p10
                      try clear p2
                      try clear p20
                      try clear p205
                      try clear p207
                      try clear p31
                      try clear p37
                      try clear p40
                      try clear p6
                      try clear q1
                      try clear q10
                      try clear q2
                      try clear q20
                      try clear q205
                      try clear q207
                      try clear q24
                      try clear q31
                      try clear q37
                      try clear q40
                      obtain ⟨x9_2, x62_2, rfl, HA, HK2, HO_9, HO_60, HB⟩ := hrel
                      cases gk with
                      | zero => exact absurd HA.out (by simp [impl_usedBy.l1])
                      | succ k2 =>
                        have H := HA.out
                        clear HA
                        simp only [impl_usedBy.l1] at H
                        by_cases c46 : x62_2 < (x6_1.length : Int)
                        · rw [if_pos c46] at H
                          have c46b0 : decide (x62_2 < (x6_1.length : Int)) = true := decide_eq_true c46
                          (try (have c46b0z := c46b0; simp only [hl5_1] at c46b0z))
                          clear c46
                          by_cases c47 : 0 ≤ x62_2
                          · rw [if_pos c47] at H
                            have c47b0 : decide (0 ≤ x62_2) = true := decide_eq_true c47
                            (try (have c47b0z := c47b0; simp only [hl5_1] at c47b0z))
                            clear c47
                            by_cases c48 : x62_2 < (x6_1.length : Int)
                            · rw [if_pos c48] at H
                              have c48b0 : decide (x62_2 < (x6_1.length : Int)) = true := decide_eq_true c48
                              (try (have c48b0z := c48b0; simp only [hl5_1] at c48b0z))
                              clear c48
                              obtain ⟨bq49, hbq49⟩ : ∃ b_ : Bool, b_ = (rdOf false x6_1 x62_2) := ⟨_, rfl⟩
                              replace H : (if bq49 = true then (if x9_2.length < 17592186044416 then (impl_usedBy.l1 k2 (x9_2 ++ [x62_2]) x6_1 (x6_1.length : Int) (wrap64 (x62_2 + 1))) else (none)) else (impl_usedBy.l1 k2 x9_2 x6_1 (x6_1.length : Int) (wrap64 (x62_2 + 1)))) = some r := by rw [← hbq49] at H; exact H
                              have Nbq49 := Aside0.mk hbq49
                              clear hbq49
                              by_cases c50 : bq49 = true
                              · subst c50
                                have H1 : (if x9_2.length < 17592186044416 then (impl_usedBy.l1 k2 (x9_2 ++ [x62_2]) x6_1 (x6_1.length : Int) (wrap64 (x62_2 + 1))) else (none)) = some r := by rw [if_pos rfl] at H; exact H
                                clear H
                                have H := H1
                                clear H1
                                by_cases c51 : x9_2.length < 17592186044416
                                · rw [if_pos c51] at H
                                  have LMc51 := Aside0.mk c51
                                  clear c51
                                  obtain ⟨y212, hy212⟩ : ∃ y_ : List Int, y_ = (x9_2 ++ [x62_2]) := ⟨_, rfl⟩
                                  replace H : (impl_usedBy.l1 k2 y212 x6_1 (x6_1.length : Int) (wrap64 (x62_2 + 1))) = some r := by first | (rw [hy212]; with_reducible exact H) | (have H2_ := (Option.bind_some _ _).symm.trans H; rw [hy212]; with_reducible exact H2_) | (have H2_ := (Option.bind_some _ _).symm.trans H; with_reducible exact H2_) | with_reducible exact H | (rw [hy212]; exact H) | exact H
                                  have Ny212 := Aside0.mk hy212
                                  clear hy212
                                  have H' := Aside0.mk H
                                  clear H
                                  have p211 : 0 ≤ (x62_2 : Int) := of_decide_eq_true (by first | (with_reducible assumption) | assumption)
                                  have q211 : x62_2 < (x6_1.length : Int) := of_decide_eq_true (by first | (with_reducible assumption) | assumption)
                                  obtain ⟨ad211, e211, hx211_0⟩ := Kd.at_bool (Kd.R_reads' HO_60.out).2.2 x62_2 p211 q211
                                  (try rw [← Nbq49.out] at hx211_0)
                                  cases e211
                                  replace p211 := eq_true p211
                                  replace q211 := eq_true q211
                                  go_wp2_with (first | ((with_reducible refine gate_builtin (b := .append) (xs := #[.tmp 68, .tmp 70]) rfl ?_); at_builtin; refine Kd.R_append (Kd.int .i64) (w0 := w) w.heap.size rfl (.tmp 68) (.tmp 70) 32 3 (.int .i64 0) 8 rfl Try.underlying32 info3 rfl (by decide) (by omega) u9 x9_2 x62_2 [.int .i64 x62_2] (fun _ => True) (fun _ => False) rfl rfl ?aP (fun _ hk => hk.elim) ?aF ?aO ?aB ?aS ?aL ?_; (case aP => exact rfl); (case aB => exact (by repeat (first | (with_reducible first | exact HB.out | apply below_alloc | apply pw_below_drewN | apply below_drew1) | exact HB.out))); (case aF => exact (fun _ _ => trivial)); (case aO => exact (by (with_reducible repeat (first | apply Kd.R_alloc | apply Kd.R_drewN | apply Kd.R_drew)); exact HO_9.out)); (case aS => exact (below_size (by repeat (first | (with_reducible first | exact HB.out | apply below_alloc | apply pw_below_drewN | apply below_drew1) | exact HB.out)))); (case aL => have := LMc51.out; omega); intro v213 w52 ho hb hg hat; rw [← Ny212.out] at ho; have n0_ := Aside0.mk (Kd.R_over' (by (with_reducible repeat (first | apply Kd.R_alloc | apply Kd.R_drewN | apply Kd.R_drew)); exact HO_60.out) (Kd.R_typed (by (with_reducible repeat (first | apply Kd.R_alloc | apply Kd.R_drewN | apply Kd.R_drew)); exact HO_9.out)) (by decide) hg); have n1_ := Aside0.mk (hb); have n2_ := Aside0.mk (ho); clear HO_60; clear HB; clear HO_9; have HO_60 := n0_; have HB := n1_; have HO214 := n2_; clear n0_ n1_ n2_; clear ho hb hg hat))
                                  go_roundg k2
                                  case measure => have := HK1.out; have := HK2.out; omega
                                  case rel => exact ⟨(y212), (wrap64 (x62_2 + 1)), (by first | rfl | (simp; done) | (simp [*]; done)), H', ⟨by have := HK1.out; have := HK2.out; omega⟩, ⟨by (try simp only [hl5_1]); (with_reducible repeat (first | apply Kd.R_alloc | apply Kd.R_drewN | apply Kd.R_drew)); exact HO214.out⟩, ⟨by (try simp only [hl5_1]); (with_reducible repeat (first | apply Kd.R_alloc | apply Kd.R_drewN | apply Kd.R_drew)); exact HO_60.out⟩, ⟨by repeat (first | (with_reducible first | exact HB.out | apply below_alloc | apply pw_below_drewN | apply below_drew1) | exact HB.out)⟩⟩
                                · rw [if_neg c51] at H
                                  exact absurd H (by simp)
                              · replace c50 := Bool.eq_false_iff.mpr c50
                                subst c50
                                have H1 : (impl_usedBy.l1 k2 x9_2 x6_1 (x6_1.length : Int) (wrap64 (x62_2 + 1))) = some r := by rw [if_neg (show ¬ (false = true) by decide)] at H; exact H
                                clear H
                                have H := H1
                                clear H1
                                have H' := Aside0.mk H
                                clear H
                                have p211 : 0 ≤ (x62_2 : Int) := of_decide_eq_true (by first | (with_reducible assumption) | assumption)
                                have q211 : x62_2 < (x6_1.length : Int) := of_decide_eq_true (by first | (with_reducible assumption) | assumption)
                                obtain ⟨ad211, e211, hx211_0⟩ := Kd.at_bool (Kd.R_reads' HO_60.out).2.2 x62_2 p211 q211
                                (try rw [← Nbq49.out] at hx211_0)
                                cases e211
                                replace p211 := eq_true p211
                                replace q211 := eq_true q211
                                go_wp2
                                go_roundg k2
                                case measure => have := HK1.out; have := HK2.out; omega
                                case rel => exact ⟨(x9_2), (wrap64 (x62_2 + 1)), (by first | rfl | (simp; done) | (simp [*]; done)), H', ⟨by have := HK1.out; have := HK2.out; omega⟩, ⟨by (try simp only [hl5_1]); (with_reducible repeat (first | apply Kd.R_alloc | apply Kd.R_drewN | apply Kd.R_drew)); exact HO_9.out⟩, ⟨by (try simp only [hl5_1]); (with_reducible repeat (first | apply Kd.R_alloc | apply Kd.R_drewN | apply Kd.R_drew)); exact HO_60.out⟩, ⟨by repeat (first | (with_reducible first | exact HB.out | apply below_alloc | apply pw_below_drewN | apply below_drew1) | exact HB.out)⟩⟩
                            · rw [if_neg c48] at H
                              exact absurd H (by simp)
                          · rw [if_neg c47] at H
                            exact absurd H (by simp)
                        · rw [if_neg c46] at H
                          have c46b0 : decide (x62_2 < (x6_1.length : Int)) = false := decide_eq_false c46
                          (try (have c46b0z := c46b0; simp only [hl5_1] at c46b0z))
                          clear c46
                          replace H := Option.bind_eq_some_iff.mp H
                          obtain ⟨t215, A530, H⟩ := H
                          replace H : (some t215) = some r := H
                          have A53 := Aside0.mk A530
                          clear A530
                          obtain rfl := Option.some.inj H
                          obtain ⟨Ao54, co54, eo54⟩ := Kd.R_slice HO_9.out
                          subst eo54
                          go_wp2_with (first | ((with_reducible refine gate_callee (f := 51) rfl ?_); refine goesL_ (some 74) rfl rfl Try.func51 (by kernel_rfl) rfl #[.slice Ao54 x9_2.length co54] rfl (by (try simp only [List.map_toArray, List.map_cons, List.map_nil]); first | done | rfl | (simp only [List.length_drop, List.length_take]; rfl)) ?_; (with_reducible refine (impl_clone_int.calls _ _ x9_2 t215 _ ?side1 ?side2 A53.out).mono ?_); (case side1 => repeat (first | exact (Kd.R_reads' HO_9.out).2.2 | (with_reducible refine Kd.C_alloc ?_ _) | (with_reducible refine Kd.C_drewN ?_ _) | (with_reducible refine Kd.C_drew ?_))); (case side2 => exact (Kd.R_reads' HO_9.out).2.1); rintro e w55 ⟨v216, rfl, ho0, hb⟩; refine ⟨_, rfl, ?_⟩; have n0_ := Aside0.mk (Kd.R_elder' (by (with_reducible repeat (first | apply Kd.R_alloc | apply Kd.R_drewN | apply Kd.R_drew)); exact HO_9.out) (Kd.R_base ho0) hb); have n1_ := Aside0.mk (Kd.R_below (by (with_reducible repeat (first | apply Kd.R_alloc | apply Kd.R_drewN | apply Kd.R_drew)); exact HO_60.out) hb); have n2_ := Aside0.mk (Kd.R_lower (Kd.R_new' ho0 (Kd.R_lt (by (with_reducible repeat (first | apply Kd.R_alloc | apply Kd.R_drewN | apply Kd.R_drew)); exact HO_9.out))) (below_size (by repeat (first | (with_reducible first | exact HB.out | apply below_alloc | apply pw_below_drewN | apply below_drew1) | exact HB.out)))); have n3_ := Aside0.mk (below_step (by repeat (first | (with_reducible first | exact HB.out | apply below_alloc | apply pw_below_drewN | apply below_drew1) | exact HB.out)) hb); clear HO_9; clear HO_60; clear HB; have HO_9 := n0_; have HO_60 := n1_; have HO217 := n2_; have HB := n3_; clear n0_ n1_ n2_ n3_; (try clear hb); (try clear hb2); (try clear hk); (try clear hi); (try clear ho0)))
                          go_ret
                          exact ⟨_, by first | rfl | (simp [errW_none, errW_some] <;> rfl) | (simp only [← hji7]; first | rfl | (simp [errW_none, errW_some] <;> rfl)) | (simp [*, errW_none, errW_some] <;> rfl), by (with_reducible repeat (first | apply Kd.R_alloc | apply Kd.R_drewN | apply Kd.R_drew)); exact Kd.R_mono HO217.out (fun _ hk => trivial), by repeat (first | (with_reducible first | exact HB.out | apply below_alloc | apply pw_below_drewN | apply below_drew1) | exact HB.out)⟩
            · rw [if_neg c9] at H
              exact absurd H (by simp)
          · rw [if_neg c8] at H
            exact absurd H (by simp)
        · rw [if_neg c6] at H
          exact absurd H (by simp)
      · rw [if_neg c5] at H
        exact absurd H (by simp)
    · rw [if_neg c4] at H
      exact absurd H (by simp)
  · rw [if_neg c3] at H
    exact absurd H (by simp)

end Go.Proofs.Ythcegdgffdppgad.XFnExactUsedBy
