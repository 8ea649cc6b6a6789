/- Printed by a program of this session out of the translation: the Go functions that a law uses as plain Lean functions, with the proofs of their calls, or the law's row.
Conditions: those that each theorem states. -/
import Derived.Test.YthcegdgffdppgadXFnExactJoinedx0
import Derived.Test.YthcegdgffdppgadXFnExactJoinedx4
import Derived.Test.YthcegdgffdppgadXFnExactJoinedx5
namespace Go.Proofs.Ythcegdgffdppgad.XFnExactJoined
open Go.RowKit Go.Proofs.YthcegdgffdppgadW.PrintWords Go.Proofs.YthcegdgffdppgadW.PrintLast Go.Proofs.YthcegdgffdppgadW.PrintMore
attribute [local go_sem] max2_int min2_int max_two min_two max_three min_three max_four min_four   -- for this text's walks alone
set_option linter.unusedVariables false
set_option linter.unusedSimpArgs false

section
open Go.Proofs.YthcegdgffdppgadW.PrintWords.Kd
theorem R_make0_49 {P : Program} {ops : Array Oper} {rest : List Oper} {o : Oper} {a : Act} {Q : Exit → Act → World → Prop} {α : Type} (d : Kd α) {w0 W : World} (base e : Nat) (hgd : o.guard = none) {N : Tmp} (hd : o.dst = some N) (t : TypeId) (x y : Operand) (ho : o.op = .makeSlice t x y) (n : Int) (hx : a.eval x = .int .i64 0) (hy : a.eval y = .int .i64 n)
    (ht : P.underlying t = some (.slice e)) (z : Value) (bytes : Nat) (hinfo : (P.info? e).map (fun i => (i.zero, i.size, i.bytes)) = some (some z, d.sz, bytes)) (hz : z.cells.size = d.sz) (hs0 : 0 < d.sz) (hb0 : 0 < bytes)
    (z0 : α) {ok okp : Nat → Prop} (hzero : d.M W base okp z0 z.cells.toList) (hok : ∀ k, okp k → ok k) (hfresh : ok W.heap.size) (h0 : 0 ≤ n) (hl : n.toNat * bytes ≤ 281474976710656) (HB : Below base w0 W) (hbase : base ≤ W.heap.size)
    (h : ∀ v1 w1, d.R e w1 base ok v1 [] → Below base w0 w1 → W.grownBy w1 none → (∃ b, v1.ownBlock = some b ∧ W.heap.size ≤ b) → wpList P ops Q rest (a.put o.dst v1) w1) : wpList P ops Q (o :: rest) a W := by
  obtain ⟨m, rfl⟩ := Int.eq_ofNat_of_zero_le h0
  simp only [Int.toNat_natCast] at hl h
  obtain ⟨i0, hi, hzz⟩ := Option.map_eq_some_iff.1 hinfo
  simp only [Prod.mk.injEq] at hzz
  obtain ⟨hz0, hz1, hz2⟩ := hzz
  have hm : m ≤ 281474976710656 := Nat.le_trans (Nat.le_mul_of_pos_right _ hb0) hl
  have hr := run_make (P := P) W t e i0 z ht hi hz0 .i64 .i64 (0 : Int) (m : Int) (by omega) (by omega)
    (by
      have h3 : ((i0.bytes * m : Nat) : Int) ≤ 281474976710656 := by rw [hz2, Nat.mul_comm]; omega
      rwa [Int.natCast_mul] at h3) (by omega)
  simp only [Int.toNat_natCast, Int.toNat_zero] at hr
  rw [hz1] at hr
  have hrun : (execOp a.eval o).run P W = .ok (.value (.slice (some ⟨W.heap.size, 0, none⟩) 0 m)) (W.alloc (.cells (madeCells z.cells (m * d.sz)) e)) := by
    simp [execOp, ho, hx, hy, hr]
  have hrep := reps_made (R := d.M W base okp) (z0 := z0) hz hs0 hzero m
  have hfull : d.R e (W.alloc (.cells (madeCells z.cells (m * d.sz)) e)) base ok (.slice (some ⟨W.heap.size, 0, none⟩) m m) (List.replicate m z0) := by
    refine ⟨fun k hk => ?_, (madeCells z.cells (m * d.sz)).toList, ?_, ?_⟩
    · have : W.heap.size = k := by simpa [Value.ownBlock] using hk
      subst this
      exact hfresh
    · have h2 := World.ownsRow_lit (base := base) (e := e) (size := d.sz) W (madeCells z.cells (m * d.sz)) m hbase (by simp [maxLen]; omega) (by simp [size_madeCells])
      simpa using h2
    · refine hrep.imp_ (fun p c hp => d.M_mono (fun k hk => ⟨hok k hk.1, fun he => ?_⟩) (M_below (d.M_bound hp) (below_alloc (Below.refl _ _) _)))
      have h3 : k = W.heap.size := by simpa [Value.ownBlock] using he
      have := hk.2.2.1
      omega
  have hcut := R_take (m := 0) hfull (Nat.zero_le _)
  exact event_run hgd hrun (h _ _ hcut (HB.alloc hbase _) (World.grownBy_alloc W _ none) ⟨W.heap.size, by simp [Value.ownBlock], Nat.le_refl _⟩)
end
/-! ### impl_kindsOf: function 49 -/
mutual
def impl_kindsOf.j0 : Nat → List (S48) → Int → Bool → Option (List Int)
  | 0, _, _, _ => none
  | k + 1, x0, x1, x20 => if x20 = true then (some ([] : List Int)) else (if 0 ≤ (x0.length : Int) then (if ((x0.length : Int) : Int).toNat ≤ 35184372088832 then (impl_kindsOf.l0 k x1 (([] : List Int)) x0 (x0.length : Int) 0) else (none)) else (none))
def impl_kindsOf.l0 : Nat → Int → List Int → List (S48) → Int → Int → Option (List Int)
  | 0, _, _, _, _, _ => none
  | k + 1, x1, x5, x24, x25, x26 => if x26 < x25 then (if 0 ≤ x26 then (if x26 < (x24.length : Int) then ((impl_parts.f k ((rd_T48 x24 x26).f0)).bind fun bt183 => ((impl_in.f ((rd_T48 x24 x26).f0) 0 9).bind fun t186 => (if ((rd_T48 x24 x26).f0) = 0 then ((impl_in.f ((rd_T48 x24 x26).f1) (-9999) 9999).bind fun t187 => (if t187 = true then (if ((rd_T48 x24 x26).f2) = 0 then (if (((rd_T48 x24 x26).f3) = 0) then (if x5.length < 17592186044416 then (impl_kindsOf.l0 k x1 (x5 ++ [bt183.2.2]) x24 x25 (wrap64 (x26 + 1))) else (none)) else (some ([] : List Int))) else (some ([] : List Int))) else (some ([] : List Int)))) else (if ((rd_T48 x24 x26).f0) = 1 then ((impl_in.f ((rd_T48 x24 x26).f1) 0 (wrap64 (x1 - 1))).bind fun t191 => (if t191 = true then (if ((rd_T48 x24 x26).f2) = 0 then (if (((rd_T48 x24 x26).f3) = 0) then (if x5.length < 17592186044416 then (impl_kindsOf.l0 k x1 (x5 ++ [bt183.2.2]) x24 x25 (wrap64 (x26 + 1))) else (none)) else (some ([] : List Int))) else (some ([] : List Int))) else (some ([] : List Int)))) else (if t186 = true then (if ((rd_T48 x24 x26).f1) = 0 then ((impl_in.f ((rd_T48 x24 x26).f2) 0 (wrap64 (x26 - 1))).bind fun t195 => (if t195 = true then ((impl_in.f ((rd_T48 x24 x26).f3) 0 (wrap64 (x26 - 1))).bind fun t196 => (if t196 = true then (if 0 ≤ ((rd_T48 x24 x26).f2) then (if ((rd_T48 x24 x26).f2) < (x5.length : Int) then (if (rd x5 ((rd_T48 x24 x26).f2)) = bt183.2.1 then (if 0 ≤ ((rd_T48 x24 x26).f3) then (if ((rd_T48 x24 x26).f3) < (x5.length : Int) then (if (rd x5 ((rd_T48 x24 x26).f3)) = bt183.2.1 then (if bt183.1 = 2 then (if x5.length < 17592186044416 then (impl_kindsOf.l0 k x1 (x5 ++ [bt183.2.2]) x24 x25 (wrap64 (x26 + 1))) else (none)) else (if (((rd_T48 x24 x26).f2) = ((rd_T48 x24 x26).f3)) then (if x5.length < 17592186044416 then (impl_kindsOf.l0 k x1 (x5 ++ [bt183.2.2]) x24 x25 (wrap64 (x26 + 1))) else (none)) else (some ([] : List Int)))) else (some ([] : List Int))) else (none)) else (none)) else (some ([] : List Int))) else (none)) else (none)) else (some ([] : List Int)))) else (some ([] : List Int)))) else (some ([] : List Int))) else (some ([] : List Int))))))) else (none)) else (none)) else (if 0 < (x5.length : Int) then (some x5) else (none))
end
def impl_kindsOf.f (k : Nat) (l0 : List (S48)) (a1 : Int) : Option (List Int) := (impl_in.f a1 0 5).bind fun t176 => (if t176 = true then ((impl_in.f (l0.length : Int) 1 40).bind fun t177 => (impl_kindsOf.j0 k l0 a1 (!t177))) else (impl_kindsOf.j0 k l0 a1 true))
theorem impl_kindsOf.mono_l : ∀ k, (∀ y0 y1 y2, LeO (impl_kindsOf.j0 k y0 y1 y2) (impl_kindsOf.j0 (k + 1) y0 y1 y2)) ∧ (∀ y0 y1 y2 y3 y4, LeO (impl_kindsOf.l0 k y0 y1 y2 y3 y4) (impl_kindsOf.l0 (k + 1) y0 y1 y2 y3 y4))
  | 0 => ⟨fun _ _ _ r h => by simp [impl_kindsOf.j0] at h, fun _ _ _ _ _ r h => by simp [impl_kindsOf.l0] at h⟩
  | k + 1 => by
    obtain ⟨ih0, ih1⟩ := impl_kindsOf.mono_l k
    refine ⟨?_, ?_⟩
    · intro y0 y1 y2
      unfold impl_kindsOf.j0
      repeat' first
      | (with_reducible exact ih0 _ _ _)
      | (with_reducible exact ih1 _ _ _ _ _)
      | (with_reducible exact impl_parts.mono _ _)
      | (with_reducible exact LeO.refl _)
      | (with_reducible exact LeO.none _)
      | (with_reducible refine LeO.ite ?_ ?_)
      | (with_reducible refine LeO.bind ?_ (fun _ => ?_))
      | exact ih0 _ _ _
      | exact ih1 _ _ _ _ _
      | exact impl_parts.mono _ _
      | exact LeO.none _
      | refine LeO.ite ?_ ?_
      | refine LeO.bind ?_ (fun _ => ?_)
    · intro y0 y1 y2 y3 y4
      unfold impl_kindsOf.l0
      repeat' first
      | (with_reducible exact ih0 _ _ _)
      | (with_reducible exact ih1 _ _ _ _ _)
      | (with_reducible exact impl_parts.mono _ _)
      | (with_reducible exact LeO.refl _)
      | (with_reducible exact LeO.none _)
      | (with_reducible refine LeO.ite ?_ ?_)
      | (with_reducible refine LeO.bind ?_ (fun _ => ?_))
      | exact ih0 _ _ _
      | exact ih1 _ _ _ _ _
      | exact impl_parts.mono _ _
      | exact LeO.none _
      | refine LeO.ite ?_ ?_
      | refine LeO.bind ?_ (fun _ => ?_)
theorem impl_kindsOf.mono : ∀ a0 a1 k, LeO (impl_kindsOf.f k a0 a1) (impl_kindsOf.f (k + 1) a0 a1) := by
  intro a0 a1 k
  obtain ⟨ih0, ih1⟩ := impl_kindsOf.mono_l k
  unfold impl_kindsOf.f
  repeat' first
      | (with_reducible exact ih0 _ _ _)
      | (with_reducible exact ih1 _ _ _ _ _)
      | (with_reducible exact impl_parts.mono _ _)
      | (with_reducible exact LeO.refl _)
      | (with_reducible exact LeO.none _)
      | (with_reducible refine LeO.ite ?_ ?_)
      | (with_reducible refine LeO.bind ?_ (fun _ => ?_))
      | exact ih0 _ _ _
      | exact ih1 _ _ _ _ _
      | exact impl_parts.mono _ _
      | exact LeO.none _
      | refine LeO.ite ?_ ?_
      | refine LeO.bind ?_ (fun _ => ?_)
set_option maxHeartbeats 8000000 in
set_option maxRecDepth 100000 in
theorem impl_kindsOf.calls_nil (k : Nat) (A0 : Option Addr) (c0 : Nat) (l0 : List (S48)) (a1 : Int) (r : List Int) (w : World) (hr0 : Kd.C k48 w A0 l0.length l0) (hc0 : l0.length ≤ c0) (h : impl_kindsOf.f k l0 a1 = some r) :
    Calls Try.prog 49 #[.slice A0 l0.length c0, .int .i64 a1] w fun e w' => ∃ v0_ : Value, e = .returned (v0_) ∧ Kd.R (Kd.int .i64) 3 w' w.heap.size (fun _ => True) v0_ r ∧ (r = [] → v0_ = .slice none 0 0) ∧ Below w.heap.size w w' := by
  have hu48 := Try.underlying48
  have HR0 := Aside0.mk hr0
  have HC0 := Aside0.mk hc0
  clear hr0 hc0
  have HB := Aside0.mk (Below.refl w.heap.size w)
  have H : ((impl_in.f a1 0 5).bind fun t176 => (if t176 = true then ((impl_in.f (l0.length : Int) 1 40).bind fun t177 => (impl_kindsOf.j0 k l0 a1 (!t177))) else (impl_kindsOf.j0 k l0 a1 true))) = some r := h
  clear h
  have HC3 := Aside0.mk H
  clear H
  go_enter Try.func49, Try.ntmps49
  go_upto_region 1 with (fail)
  go_cut [20] (fun v20 wc => ∃ (kq : Nat) (x20_2 : Bool), v20 = .bool x20_2 ∧ Aside0 (impl_kindsOf.j0 kq l0 a1 x20_2 = some r) ∧ Aside0 (kq ≤ k) ∧ Aside0 (Below w.heap.size w wc))
  case first =>
    have H := HC3.out
    clear HC3
    replace H := Option.bind_eq_some_iff.mp H
    obtain ⟨t176, A40, H⟩ := H
    replace H : (if t176 = true then ((impl_in.f (l0.length : Int) 1 40).bind fun t177 => (impl_kindsOf.j0 k l0 a1 (!t177))) else (impl_kindsOf.j0 k l0 a1 true)) = some r := H
    have A4 := Aside0.mk A40
    clear A40
    by_cases c5 : t176 = true
    · subst c5
      have H1 : ((impl_in.f (l0.length : Int) 1 40).bind fun t177 => (impl_kindsOf.j0 k l0 a1 (!t177))) = some r := by rw [if_pos rfl] at H; exact H
      clear H
      have H := H1
      clear H1
      replace H := Option.bind_eq_some_iff.mp H
      obtain ⟨t177, A60, H⟩ := H
      replace H : (impl_kindsOf.j0 k l0 a1 (!t177)) = some r := H
      have A6 := Aside0.mk A60
      clear A60
      have H' := Aside0.mk H
      clear H
      go_wp2_with (first | ((with_reducible refine gate_callee (f := 32) rfl ?_); refine goesL_ (some 13) rfl rfl Try.func32 (by kernel_rfl) rfl #[.int .i64 a1, .int .i64 0, .int .i64 5] rfl (by (try simp only [List.map_toArray, List.map_cons, List.map_nil]); first | done | rfl | (simp only [List.length_drop, List.length_take]; rfl)) ?_; (with_reducible refine (impl_in.calls a1 0 5 true _ A4.out).mono ?_); rintro e w' ⟨rfl, ⟨nd, rfl⟩⟩; refine ⟨_, rfl, ?_⟩) | (go_at_call 32; (with_reducible refine (impl_in.calls (l0.length : Int) 1 40 t177 _ A6.out).mono ?_); rintro e w' ⟨rfl, ⟨nd, rfl⟩⟩))
      go_meet
      case rel => exact ⟨_, (!t177), (by first | rfl | (simp; done) | (simp [*]; done)), H', ⟨by first | omega | exact Nat.le_refl _⟩, ⟨by repeat (first | (with_reducible first | exact HB.out | apply below_alloc | apply pw_below_drewN | apply below_drew1) | exact HB.out)⟩⟩
    · replace c5 := Bool.eq_false_iff.mpr c5
      subst c5
      have H1 : (impl_kindsOf.j0 k l0 a1 true) = some r := by rw [if_neg (show ¬ (false = true) by decide)] at H; exact H
      clear H
      have H := H1
      clear H1
      have H' := Aside0.mk H
      clear H
      go_wp2_with (first | ((with_reducible refine gate_callee (f := 32) rfl ?_); refine goesL_ (some 13) rfl rfl Try.func32 (by kernel_rfl) rfl #[.int .i64 a1, .int .i64 0, .int .i64 5] rfl (by (try simp only [List.map_toArray, List.map_cons, List.map_nil]); first | done | rfl | (simp only [List.length_drop, List.length_take]; rfl)) ?_; (with_reducible refine (impl_in.calls a1 0 5 false _ A4.out).mono ?_); rintro e w' ⟨rfl, ⟨nd, rfl⟩⟩; refine ⟨_, rfl, ?_⟩))
      go_meet
      case rel => exact ⟨_, (true), (by first | rfl | (simp; done) | (simp [*]; done)), H', ⟨by first | omega | exact Nat.le_refl _⟩, ⟨by repeat (first | (with_reducible first | exact HB.out | apply below_alloc | apply pw_below_drewN | apply below_drew1) | exact HB.out)⟩⟩
  case rest =>
    clear HC3
    try clear p2
    try clear c3
    try clear c4
    try clear c5
    obtain ⟨kq, x20_2, rfl, HA, HJ2, HB⟩ := hcut
    cases kq with
    | zero => exact absurd HA.out (by simp [impl_kindsOf.j0])
    | succ kj2 =>
      have H := HA.out
      clear HA
      simp only [impl_kindsOf.j0] at H
      by_cases c7 : x20_2 = true
      · subst c7
        have H1 : (some ([] : List Int)) = some r := by rw [if_pos rfl] at H; exact H
        clear H
        have H := H1
        clear H1
        obtain rfl := Option.some.inj H
        go_wp2
        go_ret
        exact ⟨_, by first | rfl | (simp [errW_none, errW_some] <;> rfl) | (simp [*, errW_none, errW_some] <;> rfl), by first | exact Kd.R_nil _ _ _ _ _ | exact Kd.N_nil _ _ _ _ _ | exact Kd.V_nil _ _ _ _ _ | exact Kd.Q_nil _ _ _ _ _ | exact Kd.S_nil _ _ _ _ _, (by first | rfl | (intro _; rfl) | (intro h_; subst h_; exact absurd (show decide (0 < ((([] : List Int).length : Nat) : Int)) = true from by assumption) (by decide))), by repeat (first | (with_reducible first | exact HB.out | apply below_alloc | apply pw_below_drewN | apply below_drew1) | exact HB.out)⟩
      · replace c7 := Bool.eq_false_iff.mpr c7
        subst c7
        have H1 : (if 0 ≤ (l0.length : Int) then (if ((l0.length : Int) : Int).toNat ≤ 35184372088832 then (impl_kindsOf.l0 kj2 a1 (([] : List Int)) l0 (l0.length : Int) 0) else (none)) else (none)) = some r := by rw [if_neg (show ¬ (false = true) by decide)] at H; exact H
        clear H
        have H := H1
        clear H1
        by_cases c8 : 0 ≤ (l0.length : Int)
        · rw [if_pos c8] at H
          have c8b0 := eq_true c8
          have c8b1 : decide (0 ≤ (l0.length : Int)) = true := decide_eq_true c8
          clear c8
          by_cases c9 : ((l0.length : Int) : Int).toNat ≤ 35184372088832
          · rw [if_pos c9] at H
            have c9b0 := eq_true c9
            have c9b1 : decide (((l0.length : Int) : Int).toNat ≤ 35184372088832) = true := decide_eq_true c9
            clear c9
            obtain ⟨y178, hy178⟩ : ∃ y_ : List Int, y_ = (([] : List Int)) := ⟨_, rfl⟩
            replace H : (impl_kindsOf.l0 kj2 a1 y178 l0 (l0.length : Int) 0) = some r := by first | (rw [hy178]; with_reducible exact H) | (have H2_ := (Option.bind_some _ _).symm.trans H; rw [hy178]; with_reducible exact H2_) | (have H2_ := (Option.bind_some _ _).symm.trans H; with_reducible exact H2_) | with_reducible exact H | (rw [hy178]; exact H) | exact H
            have Ny178 := Aside0.mk hy178
            clear hy178
            have H' := Aside0.mk H
            clear H
            go_wp2_with (first | ((with_reducible refine gate_dst (N := 23) rfl ?_); (try (refine gate_guard (by rfl) ?_; dsimp only)); refine R_make0_49 (Kd.int .i64) _ 3 rfl (N := 23) rfl 32 _ _ rfl (l0.length : Int) rfl rfl Try.underlying32 (.int .i64 0) 8 info3 rfl (by decide) (by omega) 0 (ok := fun _ => True) (okp := fun _ => True) rfl (fun _ hk => hk) trivial (of_decide_eq_true (by first | (with_reducible assumption) | assumption)) (Nat.le_trans (Nat.mul_le_mul_right _ (of_decide_eq_true (by first | (with_reducible assumption) | assumption) : (l0.length : Int).toNat ≤ 35184372088832)) (by omega)) (Below.refl _ _) (Nat.le_refl _) ?_; intro v179 w10 ho11 hb hg_ hnew_; clear hg_ hnew_; (first | rw [← Ny178.out] at ho11 | (simp only [Int.reduceToNat] at ho11; rw [← Ny178.out] at ho11)); have n0_ := Aside0.mk (Kd.R_lower ho11 (below_size (by repeat (first | (with_reducible first | exact HB.out | apply below_alloc | apply pw_below_drewN | apply below_drew1) | exact HB.out)))); have n1_ := Aside0.mk (below_step (by repeat (first | (with_reducible first | exact HB.out | apply below_alloc | apply pw_below_drewN | apply below_drew1) | exact HB.out)) hb); clear HB; have HO180 := n0_; have HB := n1_; clear n0_ n1_; clear hb ho11))
            go_loopg [5, 26] kj2 (fun kq v5 v26 w' => ∃ (x5_2 : List Int) (x26_2 : Int), v26 = .int .i64 x26_2 ∧ Aside0 (impl_kindsOf.l0 kq a1 x5_2 l0 (l0.length : Int) x26_2 = some r) ∧ Aside0 (kq ≤ kj2) ∧ Aside0 (Kd.R (Kd.int .i64) 3 w' w.heap.size (fun _ => True) v5 x5_2) ∧ Aside0 (Below w.heap.size w w'))
            case atStart => exact ⟨(y178), (0), (by first | rfl | (simp; done) | (simp [*]; done)), H', ⟨Nat.le_refl _⟩, ⟨by (with_reducible repeat (first | apply Kd.R_alloc | apply Kd.R_drewN | apply Kd.R_drew)); exact HO180.out⟩, ⟨by repeat (first | (with_reducible first | exact HB.out | apply below_alloc | apply pw_below_drewN | apply below_drew1) | exact HB.out)⟩⟩
            case round =>
              clear H'
              try clear p2
              try clear c3
              try clear c4
              try clear c5
              try clear c7
              try clear c8
              try clear c8b0
              try clear c8b1
              try clear c9
              try clear c9b0
              try clear c9b1
              try clear p2
              obtain ⟨x5_2, x26_2, rfl, HA, HK2, HO_5, HB⟩ := hrel
              cases gk with
              | zero => exact absurd HA.out (by simp [impl_kindsOf.l0])
              | succ k2 =>
                have H := HA.out
                clear HA
                simp only [impl_kindsOf.l0] at H
                by_cases c12 : x26_2 < (l0.length : Int)
                · rw [if_pos c12] at H
                  have c12b0 : decide (x26_2 < (l0.length : Int)) = true := decide_eq_true c12
                  clear c12
                  by_cases c13 : 0 ≤ x26_2
                  · rw [if_pos c13] at H
                    have c13b0 : decide (0 ≤ x26_2) = true := decide_eq_true c13
                    clear c13
                    by_cases c14 : x26_2 < (l0.length : Int)
                    · rw [if_pos c14] at H
                      have c14b0 : decide (x26_2 < (l0.length : Int)) = true := decide_eq_true c14
                      clear c14
                      replace H := Option.bind_eq_some_iff.mp H
                      obtain ⟨⟨t183, t184, t185⟩, A150, H⟩ := H
                      replace H : ((impl_in.f ((rd_T48 l0 x26_2).f0) 0 9).bind fun t186 => (if ((rd_T48 l0 x26_2).f0) = 0 then ((impl_in.f ((rd_T48 l0 x26_2).f1) (-9999) 9999).bind fun t187 => (if t187 = true then (if ((rd_T48 l0 x26_2).f2) = 0 then (if (((rd_T48 l0 x26_2).f3) = 0) then (if x5_2.length < 17592186044416 then (impl_kindsOf.l0 k2 a1 (x5_2 ++ [t185]) l0 (l0.length : Int) (wrap64 (x26_2 + 1))) else (none)) else (some ([] : List Int))) else (some ([] : List Int))) else (some ([] : List Int)))) else (if ((rd_T48 l0 x26_2).f0) = 1 then ((impl_in.f ((rd_T48 l0 x26_2).f1) 0 (wrap64 (a1 - 1))).bind fun t191 => (if t191 = true then (if ((rd_T48 l0 x26_2).f2) = 0 then (if (((rd_T48 l0 x26_2).f3) = 0) then (if x5_2.length < 17592186044416 then (impl_kindsOf.l0 k2 a1 (x5_2 ++ [t185]) l0 (l0.length : Int) (wrap64 (x26_2 + 1))) else (none)) else (some ([] : List Int))) else (some ([] : List Int))) else (some ([] : List Int)))) else (if t186 = true then (if ((rd_T48 l0 x26_2).f1) = 0 then ((impl_in.f ((rd_T48 l0 x26_2).f2) 0 (wrap64 (x26_2 - 1))).bind fun t195 => (if t195 = true then ((impl_in.f ((rd_T48 l0 x26_2).f3) 0 (wrap64 (x26_2 - 1))).bind fun t196 => (if t196 = true then (if 0 ≤ ((rd_T48 l0 x26_2).f2) then (if ((rd_T48 l0 x26_2).f2) < (x5_2.length : Int) then (if (rd x5_2 ((rd_T48 l0 x26_2).f2)) = t184 then (if 0 ≤ ((rd_T48 l0 x26_2).f3) then (if ((rd_T48 l0 x26_2).f3) < (x5_2.length : Int) then (if (rd x5_2 ((rd_T48 l0 x26_2).f3)) = t184 then (if t183 = 2 then (if x5_2.length < 17592186044416 then (impl_kindsOf.l0 k2 a1 (x5_2 ++ [t185]) l0 (l0.length : Int) (wrap64 (x26_2 + 1))) else (none)) else (if (((rd_T48 l0 x26_2).f2) = ((rd_T48 l0 x26_2).f3)) then (if x5_2.length < 17592186044416 then (impl_kindsOf.l0 k2 a1 (x5_2 ++ [t185]) l0 (l0.length : Int) (wrap64 (x26_2 + 1))) else (none)) else (some ([] : List Int)))) else (some ([] : List Int))) else (none)) else (none)) else (some ([] : List Int))) else (none)) else (none)) else (some ([] : List Int)))) else (some ([] : List Int)))) else (some ([] : List Int))) else (some ([] : List Int)))))) = some r := H
                      have A15 := Aside0.mk A150
                      clear A150
                      replace H := Option.bind_eq_some_iff.mp H
                      obtain ⟨t186, A160, H⟩ := H
                      replace H : (if ((rd_T48 l0 x26_2).f0) = 0 then ((impl_in.f ((rd_T48 l0 x26_2).f1) (-9999) 9999).bind fun t187 => (if t187 = true then (if ((rd_T48 l0 x26_2).f2) = 0 then (if (((rd_T48 l0 x26_2).f3) = 0) then (if x5_2.length < 17592186044416 then (impl_kindsOf.l0 k2 a1 (x5_2 ++ [t185]) l0 (l0.length : Int) (wrap64 (x26_2 + 1))) else (none)) else (some ([] : List Int))) else (some ([] : List Int))) else (some ([] : List Int)))) else (if ((rd_T48 l0 x26_2).f0) = 1 then ((impl_in.f ((rd_T48 l0 x26_2).f1) 0 (wrap64 (a1 - 1))).bind fun t191 => (if t191 = true then (if ((rd_T48 l0 x26_2).f2) = 0 then (if (((rd_T48 l0 x26_2).f3) = 0) then (if x5_2.length < 17592186044416 then (impl_kindsOf.l0 k2 a1 (x5_2 ++ [t185]) l0 (l0.length : Int) (wrap64 (x26_2 + 1))) else (none)) else (some ([] : List Int))) else (some ([] : List Int))) else (some ([] : List Int)))) else (if t186 = true then (if ((rd_T48 l0 x26_2).f1) = 0 then ((impl_in.f ((rd_T48 l0 x26_2).f2) 0 (wrap64 (x26_2 - 1))).bind fun t195 => (if t195 = true then ((impl_in.f ((rd_T48 l0 x26_2).f3) 0 (wrap64 (x26_2 - 1))).bind fun t196 => (if t196 = true then (if 0 ≤ ((rd_T48 l0 x26_2).f2) then (if ((rd_T48 l0 x26_2).f2) < (x5_2.length : Int) then (if (rd x5_2 ((rd_T48 l0 x26_2).f2)) = t184 then (if 0 ≤ ((rd_T48 l0 x26_2).f3) then (if ((rd_T48 l0 x26_2).f3) < (x5_2.length : Int) then (if (rd x5_2 ((rd_T48 l0 x26_2).f3)) = t184 then (if t183 = 2 then (if x5_2.length < 17592186044416 then (impl_kindsOf.l0 k2 a1 (x5_2 ++ [t185]) l0 (l0.length : Int) (wrap64 (x26_2 + 1))) else (none)) else (if (((rd_T48 l0 x26_2).f2) = ((rd_T48 l0 x26_2).f3)) then (if x5_2.length < 17592186044416 then (impl_kindsOf.l0 k2 a1 (x5_2 ++ [t185]) l0 (l0.length : Int) (wrap64 (x26_2 + 1))) else (none)) else (some ([] : List Int)))) else (some ([] : List Int))) else (none)) else (none)) else (some ([] : List Int))) else (none)) else (none)) else (some ([] : List Int)))) else (some ([] : List Int)))) else (some ([] : List Int))) else (some ([] : List Int))))) = some r := H
                      have A16 := Aside0.mk A160
                      clear A160
                      by_cases c17 : ((rd_T48 l0 x26_2).f0) = 0
                      · rw [if_pos c17] at H
                        have c17b0 : (((rd_T48 l0 x26_2).f0) == 0) = true := beq_iff_eq.mpr c17
                        have c17b1 : (((rd_T48 l0 x26_2).f0) != 0) = false := bne_eq_false_iff_eq.mpr c17
                        clear c17
                        replace H := Option.bind_eq_some_iff.mp H
                        obtain ⟨t187, A180, H⟩ := H
                        replace H : (if t187 = true then (if ((rd_T48 l0 x26_2).f2) = 0 then (if (((rd_T48 l0 x26_2).f3) = 0) then (if x5_2.length < 17592186044416 then (impl_kindsOf.l0 k2 a1 (x5_2 ++ [t185]) l0 (l0.length : Int) (wrap64 (x26_2 + 1))) else (none)) else (some ([] : List Int))) else (some ([] : List Int))) else (some ([] : List Int))) = some r := H
                        have A18 := Aside0.mk A180
                        clear A180
                        by_cases c19 : t187 = true
                        · subst c19
                          have H1 : (if ((rd_T48 l0 x26_2).f2) = 0 then (if (((rd_T48 l0 x26_2).f3) = 0) then (if x5_2.length < 17592186044416 then (impl_kindsOf.l0 k2 a1 (x5_2 ++ [t185]) l0 (l0.length : Int) (wrap64 (x26_2 + 1))) else (none)) else (some ([] : List Int))) else (some ([] : List Int))) = some r := by rw [if_pos rfl] at H; exact H
                          clear H
                          have H := H1
                          clear H1
                          by_cases c20 : ((rd_T48 l0 x26_2).f2) = 0
                          · rw [if_pos c20] at H
                            have c20b0 : (((rd_T48 l0 x26_2).f2) == 0) = true := beq_iff_eq.mpr c20
                            have c20b1 : (((rd_T48 l0 x26_2).f2) != 0) = false := bne_eq_false_iff_eq.mpr c20
                            clear c20
                            by_cases c21 : (((rd_T48 l0 x26_2).f3) = 0)
                            · rw [if_pos c21] at H
                              have c21b0 : (((rd_T48 l0 x26_2).f3) == 0) = true := beq_iff_eq.mpr c21
                              have c21b1 : (((rd_T48 l0 x26_2).f3) != 0) = false := bne_eq_false_iff_eq.mpr c21
                              clear c21
                              by_cases c22 : x5_2.length < 17592186044416
                              · rw [if_pos c22] at H
                                have LMc22 := Aside0.mk c22
                                clear c22
                                obtain ⟨y188, hy188⟩ : ∃ y_ : List Int, y_ = (x5_2 ++ [t185]) := ⟨_, rfl⟩
                                replace H : (impl_kindsOf.l0 k2 a1 y188 l0 (l0.length : Int) (wrap64 (x26_2 + 1))) = some r := by first | (rw [hy188]; with_reducible exact H) | (have H2_ := (Option.bind_some _ _).symm.trans H; rw [hy188]; with_reducible exact H2_) | (have H2_ := (Option.bind_some _ _).symm.trans H; with_reducible exact H2_) | with_reducible exact H | (rw [hy188]; exact H) | exact H
                                have Ny188 := Aside0.mk hy188
                                clear hy188
                                have H' := Aside0.mk H
                                clear H
                                have p181 : 0 ≤ (x26_2 : Int) := of_decide_eq_true (by first | (with_reducible assumption) | assumption)
                                have q181 : x26_2 < (l0.length : Int) := of_decide_eq_true (by first | (with_reducible assumption) | assumption)
                                obtain ⟨ad181, e181, hx181_0, hx181_1, hx181_2, hx181_3⟩ := at_T48 HR0.out x26_2 p181 q181
                                cases e181
                                replace hx181_0 := (HB.out.cell (World.block_lt_of_cell? w _ hx181_0)).trans hx181_0
                                replace hx181_1 := (HB.out.cell (World.block_lt_of_cell? w _ hx181_1)).trans hx181_1
                                replace hx181_2 := (HB.out.cell (World.block_lt_of_cell? w _ hx181_2)).trans hx181_2
                                replace hx181_3 := (HB.out.cell (World.block_lt_of_cell? w _ hx181_3)).trans hx181_3
                                replace p181 := eq_true p181
                                replace q181 := eq_true q181
                                go_wp2_with (first | ((with_reducible refine gate_dst (N := 7) rfl ?_); (try (refine gate_guard (by rfl) ?_; dsimp only)); refine box_event ?hg (N := 7) ?hd (cs := #[.int .i64 0, .int .i64 0, .int .i64 0, .int .i64 0]) (t := 48) ?hr ?_; (case hd => rfl); (case hg => rfl); (case hr => first | (go_simp; done) | (go_simp; rfl)); intro gb182 hg w23 hbox hb; have n0_ := Aside0.mk (Kd.R_below (by (with_reducible repeat (first | apply Kd.R_alloc | apply Kd.R_drewN | apply Kd.R_drew)); exact HO_5.out) hb); have n1_ := Aside0.mk (below_step (by repeat (first | (with_reducible first | exact HB.out | apply below_alloc | apply pw_below_drewN | apply below_drew1) | exact HB.out)) hb); have n2_ := Aside0.mk (hbox); have n3_ := Aside0.mk ((by rw [hg]; exact (below_size (by repeat (first | (with_reducible first | exact HB.out | apply below_alloc | apply pw_below_drewN | apply below_drew1) | exact HB.out))) : w.heap.size ≤ gb182)); have n4_ := Aside0.mk ((by rw [hg]; exact (below_size (by repeat (first | (with_reducible first | exact HB.out | apply below_alloc | apply pw_below_drewN | apply below_drew1) | exact HB.out))) : w.heap.size ≤ gb182)); clear HO_5; clear HB; have HO_5 := n0_; have HB := n1_; have BK182 := n2_; have GW182 := n3_; have GE182 := n4_; clear n0_ n1_ n2_ n3_ n4_; clear hb hbox hg; have hcz24_0 : w23.cell? ⟨gb182, 0, none⟩ = some (.int .i64 0) := (blk_cell BK182.out 0).trans rfl; have hcz24_1 : w23.cell? ⟨gb182, 1, none⟩ = some (.int .i64 0) := (blk_cell BK182.out 1).trans rfl; have hcz24_2 : w23.cell? ⟨gb182, 2, none⟩ = some (.int .i64 0) := (blk_cell BK182.out 2).trans rfl; have hcz24_3 : w23.cell? ⟨gb182, 3, none⟩ = some (.int .i64 0) := (blk_cell BK182.out 3).trans rfl; have hfz24_0 := blk_frozen BK182.out 0; have hfz24_1 := blk_frozen BK182.out 1; have hfz24_2 := blk_frozen BK182.out 2; have hfz24_3 := blk_frozen BK182.out 3) | ((with_reducible refine gate_callee (f := 54) rfl ?_); refine goesL_ (some 34) rfl rfl Try.func54 (by kernel_rfl) rfl #[.int .i64 ((rd_T48 l0 x26_2).f0)] rfl (by (try simp only [List.map_toArray, List.map_cons, List.map_nil]); first | done | rfl | (simp only [List.length_drop, List.length_take]; rfl)) ?_; (with_reducible refine (impl_parts.calls k2 ((rd_T48 l0 x26_2).f0) t183 t184 t185 _ A15.out).mono ?_); rintro e w' ⟨rfl, ⟨nd, rfl⟩⟩; refine ⟨_, rfl, ?_⟩) | ((with_reducible refine gate_callee (f := 32) rfl ?_); refine goesL_ (some 40) rfl rfl Try.func32 (by kernel_rfl) rfl #[.int .i64 ((rd_T48 l0 x26_2).f0), .int .i64 0, .int .i64 9] rfl (by (try simp only [List.map_toArray, List.map_cons, List.map_nil]); first | done | rfl | (simp only [List.length_drop, List.length_take]; rfl)) ?_; (with_reducible refine (impl_in.calls ((rd_T48 l0 x26_2).f0) 0 9 t186 _ A16.out).mono ?_); rintro e w' ⟨rfl, ⟨nd, rfl⟩⟩; refine ⟨_, rfl, ?_⟩) | ((with_reducible refine gate_callee (f := 32) rfl ?_); refine goesL_ (some 47) rfl rfl Try.func32 (by kernel_rfl) rfl #[.int .i64 ((rd_T48 l0 x26_2).f1), .int .i64 (-9999), .int .i64 9999] rfl (by (try simp only [List.map_toArray, List.map_cons, List.map_nil]); first | done | rfl | (simp only [List.length_drop, List.length_take]; rfl)) ?_; (with_reducible refine (impl_in.calls ((rd_T48 l0 x26_2).f1) (-9999) 9999 true _ A18.out).mono ?_); rintro e w' ⟨rfl, ⟨nd, rfl⟩⟩; refine ⟨_, rfl, ?_⟩) | ((with_reducible refine gate_builtin (b := .append) (xs := #[.tmp 127, .tmp 129]) rfl ?_); (try (refine gate_guard (by rfl) ?_; dsimp only)); at_builtin; refine Kd.R_append (Kd.int .i64) (w0 := w) w.heap.size rfl (.tmp 127) (.tmp 129) 32 3 (.int .i64 0) 8 rfl Try.underlying32 info3 rfl (by decide) (by omega) u5 x5_2 t185 [.int .i64 t185] (fun _ => True) (fun _ => False) rfl (by first | (go_simp; done) | (go_simp; rfl)) ?aP (fun _ hk => hk.elim) ?aF ?aO ?aB ?aS ?aL ?_; (case aP => exact rfl); (case aB => exact (by repeat (first | (with_reducible first | exact HB.out | apply below_alloc | apply pw_below_drewN | apply below_drew1 | refine below_set ?_ GE182.out) | exact HB.out))); (case aF => exact (fun _ _ => trivial)); (case aO => exact (by (with_reducible repeat (first | apply Kd.R_alloc | apply Kd.R_drewN | apply Kd.R_drew)); exact Kd.R_mono (Kd.R_far (p := ⟨gb182, 3, none⟩) (Kd.R_far (p := ⟨gb182, 2, none⟩) (Kd.R_far (p := ⟨gb182, 1, none⟩) (Kd.R_far (p := ⟨gb182, 0, none⟩) (Kd.R_types HO_5.out BK182.out (by decide)) (fun _ hk => hk.2) (.int .i64 ((rd_T48 l0 x26_2).f0))) (fun _ hk => hk.2) (.int .i64 ((rd_T48 l0 x26_2).f1))) (fun _ hk => hk.2) (.int .i64 ((rd_T48 l0 x26_2).f2))) (fun _ hk => hk.2) (.int .i64 ((rd_T48 l0 x26_2).f3))) (fun _ hk => trivial))); (case aS => exact (below_size (by repeat (first | (with_reducible first | exact HB.out | apply below_alloc | apply pw_below_drewN | apply below_drew1 | refine below_set ?_ GE182.out) | exact HB.out)))); (case aL => have := LMc22.out; omega); intro v189 w25 ho hb hg hat; rw [← Ny188.out] at ho; have n0_ := Aside0.mk (blk_grown (g := gb182) (o := .cells #[.int .i64 ((rd_T48 l0 x26_2).f0), .int .i64 ((rd_T48 l0 x26_2).f1), .int .i64 ((rd_T48 l0 x26_2).f2), .int .i64 ((rd_T48 l0 x26_2).f3)] 48 (0, 0)) (by (with_reducible repeat (first | refine blk_drewN ?_ _ | refine blk_drew ?_ | refine blk_alloc ?_ _)); refine blk_put (cs := #[.int .i64 ((rd_T48 l0 x26_2).f0), .int .i64 ((rd_T48 l0 x26_2).f1), .int .i64 ((rd_T48 l0 x26_2).f2), .int .i64 0]) ?_ 3 _ rfl; (with_reducible repeat (first | refine blk_drewN ?_ _ | refine blk_drew ?_ | refine blk_alloc ?_ _)); refine blk_put (cs := #[.int .i64 ((rd_T48 l0 x26_2).f0), .int .i64 ((rd_T48 l0 x26_2).f1), .int .i64 0, .int .i64 0]) ?_ 2 _ rfl; (with_reducible repeat (first | refine blk_drewN ?_ _ | refine blk_drew ?_ | refine blk_alloc ?_ _)); refine blk_put (cs := #[.int .i64 ((rd_T48 l0 x26_2).f0), .int .i64 0, .int .i64 0, .int .i64 0]) ?_ 1 _ rfl; (with_reducible repeat (first | refine blk_drewN ?_ _ | refine blk_drew ?_ | refine blk_alloc ?_ _)); refine blk_put (cs := #[.int .i64 0, .int .i64 0, .int .i64 0, .int .i64 0]) ?_ 0 _ rfl; (with_reducible repeat (first | refine blk_drewN ?_ _ | refine blk_drew ?_ | refine blk_alloc ?_ _)); exact BK182.out) hg (Kd.R_ne HO_5.out BK182.out (by decide))); have n1_ := Aside0.mk (hb); have n2_ := Aside0.mk (ho); clear BK182; clear HB; clear HO_5; have BK182 := n0_; have HB := n1_; have HO190 := n2_; clear n0_ n1_ n2_; clear ho hb hg hat))
                                go_roundg k2
                                case measure => have := HJ2.out; have := HK2.out; omega
                                case rel => exact ⟨(y188), (wrap64 (x26_2 + 1)), (by first | rfl | (simp; done) | (simp [*]; done)), H', ⟨by have := HJ2.out; have := HK2.out; omega⟩, ⟨by (with_reducible repeat (first | apply Kd.R_alloc | apply Kd.R_drewN | apply Kd.R_drew)); exact HO190.out⟩, ⟨by repeat (first | (with_reducible first | exact HB.out | apply below_alloc | apply pw_below_drewN | apply below_drew1 | refine below_set ?_ GE182.out) | exact HB.out)⟩⟩
                              · rw [if_neg c22] at H
                                exact absurd H (by simp)
                            · rw [if_neg c21] at H
                              have c21b0 : (((rd_T48 l0 x26_2).f3) == 0) = false := beq_eq_false_iff_ne.mpr c21
                              have c21b1 : (((rd_T48 l0 x26_2).f3) != 0) = true := bne_iff_ne.mpr c21
                              obtain rfl := Option.some.inj H
                              have p181 : 0 ≤ (x26_2 : Int) := of_decide_eq_true (by first | (with_reducible assumption) | assumption)
                              have q181 : x26_2 < (l0.length : Int) := of_decide_eq_true (by first | (with_reducible assumption) | assumption)
                              obtain ⟨ad181, e181, hx181_0, hx181_1, hx181_2, hx181_3⟩ := at_T48 HR0.out x26_2 p181 q181
                              cases e181
                              replace hx181_0 := (HB.out.cell (World.block_lt_of_cell? w _ hx181_0)).trans hx181_0
                              replace hx181_1 := (HB.out.cell (World.block_lt_of_cell? w _ hx181_1)).trans hx181_1
                              replace hx181_2 := (HB.out.cell (World.block_lt_of_cell? w _ hx181_2)).trans hx181_2
                              replace hx181_3 := (HB.out.cell (World.block_lt_of_cell? w _ hx181_3)).trans hx181_3
                              replace p181 := eq_true p181
                              replace q181 := eq_true q181
                              go_wp2_with (first | ((with_reducible refine gate_dst (N := 7) rfl ?_); (try (refine gate_guard (by rfl) ?_; dsimp only)); refine box_event ?hg (N := 7) ?hd (cs := #[.int .i64 0, .int .i64 0, .int .i64 0, .int .i64 0]) (t := 48) ?hr ?_; (case hd => rfl); (case hg => rfl); (case hr => first | (go_simp; done) | (go_simp; rfl)); intro gb182 hg w26 hbox hb; have n0_ := Aside0.mk (Kd.R_below (by (with_reducible repeat (first | apply Kd.R_alloc | apply Kd.R_drewN | apply Kd.R_drew)); exact HO_5.out) hb); have n1_ := Aside0.mk (below_step (by repeat (first | (with_reducible first | exact HB.out | apply below_alloc | apply pw_below_drewN | apply below_drew1) | exact HB.out)) hb); have n2_ := Aside0.mk (hbox); have n3_ := Aside0.mk ((by rw [hg]; exact (below_size (by repeat (first | (with_reducible first | exact HB.out | apply below_alloc | apply pw_below_drewN | apply below_drew1) | exact HB.out))) : w.heap.size ≤ gb182)); have n4_ := Aside0.mk ((by rw [hg]; exact (below_size (by repeat (first | (with_reducible first | exact HB.out | apply below_alloc | apply pw_below_drewN | apply below_drew1) | exact HB.out))) : w.heap.size ≤ gb182)); clear HO_5; clear HB; have HO_5 := n0_; have HB := n1_; have BK182 := n2_; have GW182 := n3_; have GE182 := n4_; clear n0_ n1_ n2_ n3_ n4_; clear hb hbox hg; have hcz27_0 : w26.cell? ⟨gb182, 0, none⟩ = some (.int .i64 0) := (blk_cell BK182.out 0).trans rfl; have hcz27_1 : w26.cell? ⟨gb182, 1, none⟩ = some (.int .i64 0) := (blk_cell BK182.out 1).trans rfl; have hcz27_2 : w26.cell? ⟨gb182, 2, none⟩ = some (.int .i64 0) := (blk_cell BK182.out 2).trans rfl; have hcz27_3 : w26.cell? ⟨gb182, 3, none⟩ = some (.int .i64 0) := (blk_cell BK182.out 3).trans rfl; have hfz27_0 := blk_frozen BK182.out 0; have hfz27_1 := blk_frozen BK182.out 1; have hfz27_2 := blk_frozen BK182.out 2; have hfz27_3 := blk_frozen BK182.out 3) | ((with_reducible refine gate_callee (f := 54) rfl ?_); refine goesL_ (some 34) rfl rfl Try.func54 (by kernel_rfl) rfl #[.int .i64 ((rd_T48 l0 x26_2).f0)] rfl (by (try simp only [List.map_toArray, List.map_cons, List.map_nil]); first | done | rfl | (simp only [List.length_drop, List.length_take]; rfl)) ?_; (with_reducible refine (impl_parts.calls k2 ((rd_T48 l0 x26_2).f0) t183 t184 t185 _ A15.out).mono ?_); rintro e w' ⟨rfl, ⟨nd, rfl⟩⟩; refine ⟨_, rfl, ?_⟩) | ((with_reducible refine gate_callee (f := 32) rfl ?_); refine goesL_ (some 40) rfl rfl Try.func32 (by kernel_rfl) rfl #[.int .i64 ((rd_T48 l0 x26_2).f0), .int .i64 0, .int .i64 9] rfl (by (try simp only [List.map_toArray, List.map_cons, List.map_nil]); first | done | rfl | (simp only [List.length_drop, List.length_take]; rfl)) ?_; (with_reducible refine (impl_in.calls ((rd_T48 l0 x26_2).f0) 0 9 t186 _ A16.out).mono ?_); rintro e w' ⟨rfl, ⟨nd, rfl⟩⟩; refine ⟨_, rfl, ?_⟩) | ((with_reducible refine gate_callee (f := 32) rfl ?_); refine goesL_ (some 47) rfl rfl Try.func32 (by kernel_rfl) rfl #[.int .i64 ((rd_T48 l0 x26_2).f1), .int .i64 (-9999), .int .i64 9999] rfl (by (try simp only [List.map_toArray, List.map_cons, List.map_nil]); first | done | rfl | (simp only [List.length_drop, List.length_take]; rfl)) ?_; (with_reducible refine (impl_in.calls ((rd_T48 l0 x26_2).f1) (-9999) 9999 true _ A18.out).mono ?_); rintro e w' ⟨rfl, ⟨nd, rfl⟩⟩; refine ⟨_, rfl, ?_⟩))
                              go_ret
                              exact ⟨_, by first | rfl | (simp [errW_none, errW_some] <;> rfl) | (simp [*, errW_none, errW_some] <;> rfl), by first | exact Kd.R_nil _ _ _ _ _ | exact Kd.N_nil _ _ _ _ _ | exact Kd.V_nil _ _ _ _ _ | exact Kd.Q_nil _ _ _ _ _ | exact Kd.S_nil _ _ _ _ _, (by first | rfl | (intro _; rfl) | (intro h_; subst h_; exact absurd (show decide (0 < ((([] : List Int).length : Nat) : Int)) = true from by assumption) (by decide))), by repeat (first | (with_reducible first | exact HB.out | apply below_alloc | apply pw_below_drewN | apply below_drew1 | refine below_set ?_ GE182.out) | exact HB.out)⟩
                          · rw [if_neg c20] at H
                            have c20b0 : (((rd_T48 l0 x26_2).f2) == 0) = false := beq_eq_false_iff_ne.mpr c20
                            have c20b1 : (((rd_T48 l0 x26_2).f2) != 0) = true := bne_iff_ne.mpr c20
                            obtain rfl := Option.some.inj H
                            have p181 : 0 ≤ (x26_2 : Int) := of_decide_eq_true (by first | (with_reducible assumption) | assumption)
                            have q181 : x26_2 < (l0.length : Int) := of_decide_eq_true (by first | (with_reducible assumption) | assumption)
                            obtain ⟨ad181, e181, hx181_0, hx181_1, hx181_2, hx181_3⟩ := at_T48 HR0.out x26_2 p181 q181
                            cases e181
                            replace hx181_0 := (HB.out.cell (World.block_lt_of_cell? w _ hx181_0)).trans hx181_0
                            replace hx181_1 := (HB.out.cell (World.block_lt_of_cell? w _ hx181_1)).trans hx181_1
                            replace hx181_2 := (HB.out.cell (World.block_lt_of_cell? w _ hx181_2)).trans hx181_2
                            replace hx181_3 := (HB.out.cell (World.block_lt_of_cell? w _ hx181_3)).trans hx181_3
                            replace p181 := eq_true p181
                            replace q181 := eq_true q181
                            go_wp2_with (first | ((with_reducible refine gate_dst (N := 7) rfl ?_); (try (refine gate_guard (by rfl) ?_; dsimp only)); refine box_event ?hg (N := 7) ?hd (cs := #[.int .i64 0, .int .i64 0, .int .i64 0, .int .i64 0]) (t := 48) ?hr ?_; (case hd => rfl); (case hg => rfl); (case hr => first | (go_simp; done) | (go_simp; rfl)); intro gb182 hg w28 hbox hb; have n0_ := Aside0.mk (Kd.R_below (by (with_reducible repeat (first | apply Kd.R_alloc | apply Kd.R_drewN | apply Kd.R_drew)); exact HO_5.out) hb); have n1_ := Aside0.mk (below_step (by repeat (first | (with_reducible first | exact HB.out | apply below_alloc | apply pw_below_drewN | apply below_drew1) | exact HB.out)) hb); have n2_ := Aside0.mk (hbox); have n3_ := Aside0.mk ((by rw [hg]; exact (below_size (by repeat (first | (with_reducible first | exact HB.out | apply below_alloc | apply pw_below_drewN | apply below_drew1) | exact HB.out))) : w.heap.size ≤ gb182)); have n4_ := Aside0.mk ((by rw [hg]; exact (below_size (by repeat (first | (with_reducible first | exact HB.out | apply below_alloc | apply pw_below_drewN | apply below_drew1) | exact HB.out))) : w.heap.size ≤ gb182)); clear HO_5; clear HB; have HO_5 := n0_; have HB := n1_; have BK182 := n2_; have GW182 := n3_; have GE182 := n4_; clear n0_ n1_ n2_ n3_ n4_; clear hb hbox hg; have hcz29_0 : w28.cell? ⟨gb182, 0, none⟩ = some (.int .i64 0) := (blk_cell BK182.out 0).trans rfl; have hcz29_1 : w28.cell? ⟨gb182, 1, none⟩ = some (.int .i64 0) := (blk_cell BK182.out 1).trans rfl; have hcz29_2 : w28.cell? ⟨gb182, 2, none⟩ = some (.int .i64 0) := (blk_cell BK182.out 2).trans rfl; have hcz29_3 : w28.cell? ⟨gb182, 3, none⟩ = some (.int .i64 0) := (blk_cell BK182.out 3).trans rfl; have hfz29_0 := blk_frozen BK182.out 0; have hfz29_1 := blk_frozen BK182.out 1; have hfz29_2 := blk_frozen BK182.out 2; have hfz29_3 := blk_frozen BK182.out 3) | ((with_reducible refine gate_callee (f := 54) rfl ?_); refine goesL_ (some 34) rfl rfl Try.func54 (by kernel_rfl) rfl #[.int .i64 ((rd_T48 l0 x26_2).f0)] rfl (by (try simp only [List.map_toArray, List.map_cons, List.map_nil]); first | done | rfl | (simp only [List.length_drop, List.length_take]; rfl)) ?_; (with_reducible refine (impl_parts.calls k2 ((rd_T48 l0 x26_2).f0) t183 t184 t185 _ A15.out).mono ?_); rintro e w' ⟨rfl, ⟨nd, rfl⟩⟩; refine ⟨_, rfl, ?_⟩) | ((with_reducible refine gate_callee (f := 32) rfl ?_); refine goesL_ (some 40) rfl rfl Try.func32 (by kernel_rfl) rfl #[.int .i64 ((rd_T48 l0 x26_2).f0), .int .i64 0, .int .i64 9] rfl (by (try simp only [List.map_toArray, List.map_cons, List.map_nil]); first | done | rfl | (simp only [List.length_drop, List.length_take]; rfl)) ?_; (with_reducible refine (impl_in.calls ((rd_T48 l0 x26_2).f0) 0 9 t186 _ A16.out).mono ?_); rintro e w' ⟨rfl, ⟨nd, rfl⟩⟩; refine ⟨_, rfl, ?_⟩) | ((with_reducible refine gate_callee (f := 32) rfl ?_); refine goesL_ (some 47) rfl rfl Try.func32 (by kernel_rfl) rfl #[.int .i64 ((rd_T48 l0 x26_2).f1), .int .i64 (-9999), .int .i64 9999] rfl (by (try simp only [List.map_toArray, List.map_cons, List.map_nil]); first | done | rfl | (simp only [List.length_drop, List.length_take]; rfl)) ?_; (with_reducible refine (impl_in.calls ((rd_T48 l0 x26_2).f1) (-9999) 9999 true _ A18.out).mono ?_); rintro e w' ⟨rfl, ⟨nd, rfl⟩⟩; refine ⟨_, rfl, ?_⟩))
                            go_ret
                            exact ⟨_, by first | rfl | (simp [errW_none, errW_some] <;> rfl) | (simp [*, errW_none, errW_some] <;> rfl), by first | exact Kd.R_nil _ _ _ _ _ | exact Kd.N_nil _ _ _ _ _ | exact Kd.V_nil _ _ _ _ _ | exact Kd.Q_nil _ _ _ _ _ | exact Kd.S_nil _ _ _ _ _, (by first | rfl | (intro _; rfl) | (intro h_; subst h_; exact absurd (show decide (0 < ((([] : List Int).length : Nat) : Int)) = true from by assumption) (by decide))), by repeat (first | (with_reducible first | exact HB.out | apply below_alloc | apply pw_below_drewN | apply below_drew1 | refine below_set ?_ GE182.out) | exact HB.out)⟩
                        · replace c19 := Bool.eq_false_iff.mpr c19
                          subst c19
                          have H1 : (some ([] : List Int)) = some r := by rw [if_neg (show ¬ (false = true) by decide)] at H; exact H
                          clear H
                          have H := H1
                          clear H1
                          obtain rfl := Option.some.inj H
                          have p181 : 0 ≤ (x26_2 : Int) := of_decide_eq_true (by first | (with_reducible assumption) | assumption)
                          have q181 : x26_2 < (l0.length : Int) := of_decide_eq_true (by first | (with_reducible assumption) | assumption)
                          obtain ⟨ad181, e181, hx181_0, hx181_1, hx181_2, hx181_3⟩ := at_T48 HR0.out x26_2 p181 q181
                          cases e181
                          replace hx181_0 := (HB.out.cell (World.block_lt_of_cell? w _ hx181_0)).trans hx181_0
                          replace hx181_1 := (HB.out.cell (World.block_lt_of_cell? w _ hx181_1)).trans hx181_1
                          replace hx181_2 := (HB.out.cell (World.block_lt_of_cell? w _ hx181_2)).trans hx181_2
                          replace hx181_3 := (HB.out.cell (World.block_lt_of_cell? w _ hx181_3)).trans hx181_3
                          replace p181 := eq_true p181
                          replace q181 := eq_true q181
                          go_wp2_with (first | ((with_reducible refine gate_dst (N := 7) rfl ?_); (try (refine gate_guard (by rfl) ?_; dsimp only)); refine box_event ?hg (N := 7) ?hd (cs := #[.int .i64 0, .int .i64 0, .int .i64 0, .int .i64 0]) (t := 48) ?hr ?_; (case hd => rfl); (case hg => rfl); (case hr => first | (go_simp; done) | (go_simp; rfl)); intro gb182 hg w30 hbox hb; have n0_ := Aside0.mk (Kd.R_below (by (with_reducible repeat (first | apply Kd.R_alloc | apply Kd.R_drewN | apply Kd.R_drew)); exact HO_5.out) hb); have n1_ := Aside0.mk (below_step (by repeat (first | (with_reducible first | exact HB.out | apply below_alloc | apply pw_below_drewN | apply below_drew1) | exact HB.out)) hb); have n2_ := Aside0.mk (hbox); have n3_ := Aside0.mk ((by rw [hg]; exact (below_size (by repeat (first | (with_reducible first | exact HB.out | apply below_alloc | apply pw_below_drewN | apply below_drew1) | exact HB.out))) : w.heap.size ≤ gb182)); have n4_ := Aside0.mk ((by rw [hg]; exact (below_size (by repeat (first | (with_reducible first | exact HB.out | apply below_alloc | apply pw_below_drewN | apply below_drew1) | exact HB.out))) : w.heap.size ≤ gb182)); clear HO_5; clear HB; have HO_5 := n0_; have HB := n1_; have BK182 := n2_; have GW182 := n3_; have GE182 := n4_; clear n0_ n1_ n2_ n3_ n4_; clear hb hbox hg; have hcz31_0 : w30.cell? ⟨gb182, 0, none⟩ = some (.int .i64 0) := (blk_cell BK182.out 0).trans rfl; have hcz31_1 : w30.cell? ⟨gb182, 1, none⟩ = some (.int .i64 0) := (blk_cell BK182.out 1).trans rfl; have hcz31_2 : w30.cell? ⟨gb182, 2, none⟩ = some (.int .i64 0) := (blk_cell BK182.out 2).trans rfl; have hcz31_3 : w30.cell? ⟨gb182, 3, none⟩ = some (.int .i64 0) := (blk_cell BK182.out 3).trans rfl; have hfz31_0 := blk_frozen BK182.out 0; have hfz31_1 := blk_frozen BK182.out 1; have hfz31_2 := blk_frozen BK182.out 2; have hfz31_3 := blk_frozen BK182.out 3) | ((with_reducible refine gate_callee (f := 54) rfl ?_); refine goesL_ (some 34) rfl rfl Try.func54 (by kernel_rfl) rfl #[.int .i64 ((rd_T48 l0 x26_2).f0)] rfl (by (try simp only [List.map_toArray, List.map_cons, List.map_nil]); first | done | rfl | (simp only [List.length_drop, List.length_take]; rfl)) ?_; (with_reducible refine (impl_parts.calls k2 ((rd_T48 l0 x26_2).f0) t183 t184 t185 _ A15.out).mono ?_); rintro e w' ⟨rfl, ⟨nd, rfl⟩⟩; refine ⟨_, rfl, ?_⟩) | ((with_reducible refine gate_callee (f := 32) rfl ?_); refine goesL_ (some 40) rfl rfl Try.func32 (by kernel_rfl) rfl #[.int .i64 ((rd_T48 l0 x26_2).f0), .int .i64 0, .int .i64 9] rfl (by (try simp only [List.map_toArray, List.map_cons, List.map_nil]); first | done | rfl | (simp only [List.length_drop, List.length_take]; rfl)) ?_; (with_reducible refine (impl_in.calls ((rd_T48 l0 x26_2).f0) 0 9 t186 _ A16.out).mono ?_); rintro e w' ⟨rfl, ⟨nd, rfl⟩⟩; refine ⟨_, rfl, ?_⟩) | ((with_reducible refine gate_callee (f := 32) rfl ?_); refine goesL_ (some 47) rfl rfl Try.func32 (by kernel_rfl) rfl #[.int .i64 ((rd_T48 l0 x26_2).f1), .int .i64 (-9999), .int .i64 9999] rfl (by (try simp only [List.map_toArray, List.map_cons, List.map_nil]); first | done | rfl | (simp only [List.length_drop, List.length_take]; rfl)) ?_; (with_reducible refine (impl_in.calls ((rd_T48 l0 x26_2).f1) (-9999) 9999 false _ A18.out).mono ?_); rintro e w' ⟨rfl, ⟨nd, rfl⟩⟩; refine ⟨_, rfl, ?_⟩))
                          go_ret
                          exact ⟨_, by first | rfl | (simp [errW_none, errW_some] <;> rfl) | (simp [*, errW_none, errW_some] <;> rfl), by first | exact Kd.R_nil _ _ _ _ _ | exact Kd.N_nil _ _ _ _ _ | exact Kd.V_nil _ _ _ _ _ | exact Kd.Q_nil _ _ _ _ _ | exact Kd.S_nil _ _ _ _ _, (by first | rfl | (intro _; rfl) | (intro h_; subst h_; exact absurd (show decide (0 < ((([] : List Int).length : Nat) : Int)) = true from by assumption) (by decide))), by repeat (first | (with_reducible first | exact HB.out | apply below_alloc | apply pw_below_drewN | apply below_drew1 | refine below_set ?_ GE182.out) | exact HB.out)⟩
                      · rw [if_neg c17] at H
                        have c17b0 : (((rd_T48 l0 x26_2).f0) == 0) = false := beq_eq_false_iff_ne.mpr c17
                        have c17b1 : (((rd_T48 l0 x26_2).f0) != 0) = true := bne_iff_ne.mpr c17
                        by_cases c32 : ((rd_T48 l0 x26_2).f0) = 1
                        · rw [if_pos c32] at H
                          have c32b0 : (((rd_T48 l0 x26_2).f0) == 1) = true := beq_iff_eq.mpr c32
                          have c32b1 : (((rd_T48 l0 x26_2).f0) != 1) = false := bne_eq_false_iff_eq.mpr c32
                          clear c32
                          replace H := Option.bind_eq_some_iff.mp H
                          obtain ⟨t191, A330, H⟩ := H
                          replace H : (if t191 = true then (if ((rd_T48 l0 x26_2).f2) = 0 then (if (((rd_T48 l0 x26_2).f3) = 0) then (if x5_2.length < 17592186044416 then (impl_kindsOf.l0 k2 a1 (x5_2 ++ [t185]) l0 (l0.length : Int) (wrap64 (x26_2 + 1))) else (none)) else (some ([] : List Int))) else (some ([] : List Int))) else (some ([] : List Int))) = some r := H
                          have A33 := Aside0.mk A330
                          clear A330
                          by_cases c34 : t191 = true
                          · subst c34
                            have H1 : (if ((rd_T48 l0 x26_2).f2) = 0 then (if (((rd_T48 l0 x26_2).f3) = 0) then (if x5_2.length < 17592186044416 then (impl_kindsOf.l0 k2 a1 (x5_2 ++ [t185]) l0 (l0.length : Int) (wrap64 (x26_2 + 1))) else (none)) else (some ([] : List Int))) else (some ([] : List Int))) = some r := by rw [if_pos rfl] at H; exact H
                            clear H
                            have H := H1
                            clear H1
                            by_cases c35 : ((rd_T48 l0 x26_2).f2) = 0
                            · rw [if_pos c35] at H
                              have c35b0 : (((rd_T48 l0 x26_2).f2) == 0) = true := beq_iff_eq.mpr c35
                              have c35b1 : (((rd_T48 l0 x26_2).f2) != 0) = false := bne_eq_false_iff_eq.mpr c35
                              clear c35
                              by_cases c36 : (((rd_T48 l0 x26_2).f3) = 0)
                              · rw [if_pos c36] at H
                                have c36b0 : (((rd_T48 l0 x26_2).f3) == 0) = true := beq_iff_eq.mpr c36
                                have c36b1 : (((rd_T48 l0 x26_2).f3) != 0) = false := bne_eq_false_iff_eq.mpr c36
                                clear c36
                                by_cases c37 : x5_2.length < 17592186044416
                                · rw [if_pos c37] at H
                                  have LMc37 := Aside0.mk c37
                                  clear c37
                                  obtain ⟨y192, hy192⟩ : ∃ y_ : List Int, y_ = (x5_2 ++ [t185]) := ⟨_, rfl⟩
                                  replace H : (impl_kindsOf.l0 k2 a1 y192 l0 (l0.length : Int) (wrap64 (x26_2 + 1))) = some r := by first | (rw [hy192]; with_reducible exact H) | (have H2_ := (Option.bind_some _ _).symm.trans H; rw [hy192]; with_reducible exact H2_) | (have H2_ := (Option.bind_some _ _).symm.trans H; with_reducible exact H2_) | with_reducible exact H | (rw [hy192]; exact H) | exact H
                                  have Ny192 := Aside0.mk hy192
                                  clear hy192
                                  have H' := Aside0.mk H
                                  clear H
                                  have p181 : 0 ≤ (x26_2 : Int) := of_decide_eq_true (by first | (with_reducible assumption) | assumption)
                                  have q181 : x26_2 < (l0.length : Int) := of_decide_eq_true (by first | (with_reducible assumption) | assumption)
                                  obtain ⟨ad181, e181, hx181_0, hx181_1, hx181_2, hx181_3⟩ := at_T48 HR0.out x26_2 p181 q181
                                  cases e181
                                  replace hx181_0 := (HB.out.cell (World.block_lt_of_cell? w _ hx181_0)).trans hx181_0
                                  replace hx181_1 := (HB.out.cell (World.block_lt_of_cell? w _ hx181_1)).trans hx181_1
                                  replace hx181_2 := (HB.out.cell (World.block_lt_of_cell? w _ hx181_2)).trans hx181_2
                                  replace hx181_3 := (HB.out.cell (World.block_lt_of_cell? w _ hx181_3)).trans hx181_3
                                  replace p181 := eq_true p181
                                  replace q181 := eq_true q181
                                  go_wp2_with (first | ((with_reducible refine gate_dst (N := 7) rfl ?_); (try (refine gate_guard (by rfl) ?_; dsimp only)); refine box_event ?hg (N := 7) ?hd (cs := #[.int .i64 0, .int .i64 0, .int .i64 0, .int .i64 0]) (t := 48) ?hr ?_; (case hd => rfl); (case hg => rfl); (case hr => first | (go_simp; done) | (go_simp; rfl)); intro gb182 hg w38 hbox hb; have n0_ := Aside0.mk (Kd.R_below (by (with_reducible repeat (first | apply Kd.R_alloc | apply Kd.R_drewN | apply Kd.R_drew)); exact HO_5.out) hb); have n1_ := Aside0.mk (below_step (by repeat (first | (with_reducible first | exact HB.out | apply below_alloc | apply pw_below_drewN | apply below_drew1) | exact HB.out)) hb); have n2_ := Aside0.mk (hbox); have n3_ := Aside0.mk ((by rw [hg]; exact (below_size (by repeat (first | (with_reducible first | exact HB.out | apply below_alloc | apply pw_below_drewN | apply below_drew1) | exact HB.out))) : w.heap.size ≤ gb182)); have n4_ := Aside0.mk ((by rw [hg]; exact (below_size (by repeat (first | (with_reducible first | exact HB.out | apply below_alloc | apply pw_below_drewN | apply below_drew1) | exact HB.out))) : w.heap.size ≤ gb182)); clear HO_5; clear HB; have HO_5 := n0_; have HB := n1_; have BK182 := n2_; have GW182 := n3_; have GE182 := n4_; clear n0_ n1_ n2_ n3_ n4_; clear hb hbox hg; have hcz39_0 : w38.cell? ⟨gb182, 0, none⟩ = some (.int .i64 0) := (blk_cell BK182.out 0).trans rfl; have hcz39_1 : w38.cell? ⟨gb182, 1, none⟩ = some (.int .i64 0) := (blk_cell BK182.out 1).trans rfl; have hcz39_2 : w38.cell? ⟨gb182, 2, none⟩ = some (.int .i64 0) := (blk_cell BK182.out 2).trans rfl; have hcz39_3 : w38.cell? ⟨gb182, 3, none⟩ = some (.int .i64 0) := (blk_cell BK182.out 3).trans rfl; have hfz39_0 := blk_frozen BK182.out 0; have hfz39_1 := blk_frozen BK182.out 1; have hfz39_2 := blk_frozen BK182.out 2; have hfz39_3 := blk_frozen BK182.out 3) | ((with_reducible refine gate_callee (f := 54) rfl ?_); refine goesL_ (some 34) rfl rfl Try.func54 (by kernel_rfl) rfl #[.int .i64 ((rd_T48 l0 x26_2).f0)] rfl (by (try simp only [List.map_toArray, List.map_cons, List.map_nil]); first | done | rfl | (simp only [List.length_drop, List.length_take]; rfl)) ?_; (with_reducible refine (impl_parts.calls k2 ((rd_T48 l0 x26_2).f0) t183 t184 t185 _ A15.out).mono ?_); rintro e w' ⟨rfl, ⟨nd, rfl⟩⟩; refine ⟨_, rfl, ?_⟩) | ((with_reducible refine gate_callee (f := 32) rfl ?_); refine goesL_ (some 40) rfl rfl Try.func32 (by kernel_rfl) rfl #[.int .i64 ((rd_T48 l0 x26_2).f0), .int .i64 0, .int .i64 9] rfl (by (try simp only [List.map_toArray, List.map_cons, List.map_nil]); first | done | rfl | (simp only [List.length_drop, List.length_take]; rfl)) ?_; (with_reducible refine (impl_in.calls ((rd_T48 l0 x26_2).f0) 0 9 t186 _ A16.out).mono ?_); rintro e w' ⟨rfl, ⟨nd, rfl⟩⟩; refine ⟨_, rfl, ?_⟩) | ((with_reducible refine gate_callee (f := 32) rfl ?_); refine goesL_ (some 66) rfl rfl Try.func32 (by kernel_rfl) rfl #[.int .i64 ((rd_T48 l0 x26_2).f1), .int .i64 0, .int .i64 (wrap64 (a1 - 1))] rfl (by (try simp only [List.map_toArray, List.map_cons, List.map_nil]); first | done | rfl | (simp only [List.length_drop, List.length_take]; rfl)) ?_; (with_reducible refine (impl_in.calls ((rd_T48 l0 x26_2).f1) 0 (wrap64 (a1 - 1)) true _ A33.out).mono ?_); rintro e w' ⟨rfl, ⟨nd, rfl⟩⟩; refine ⟨_, rfl, ?_⟩) | ((with_reducible refine gate_builtin (b := .append) (xs := #[.tmp 127, .tmp 129]) rfl ?_); (try (refine gate_guard (by rfl) ?_; dsimp only)); at_builtin; refine Kd.R_append (Kd.int .i64) (w0 := w) w.heap.size rfl (.tmp 127) (.tmp 129) 32 3 (.int .i64 0) 8 rfl Try.underlying32 info3 rfl (by decide) (by omega) u5 x5_2 t185 [.int .i64 t185] (fun _ => True) (fun _ => False) rfl (by first | (go_simp; done) | (go_simp; rfl)) ?aP (fun _ hk => hk.elim) ?aF ?aO ?aB ?aS ?aL ?_; (case aP => exact rfl); (case aB => exact (by repeat (first | (with_reducible first | exact HB.out | apply below_alloc | apply pw_below_drewN | apply below_drew1 | refine below_set ?_ GE182.out) | exact HB.out))); (case aF => exact (fun _ _ => trivial)); (case aO => exact (by (with_reducible repeat (first | apply Kd.R_alloc | apply Kd.R_drewN | apply Kd.R_drew)); exact Kd.R_mono (Kd.R_far (p := ⟨gb182, 3, none⟩) (Kd.R_far (p := ⟨gb182, 2, none⟩) (Kd.R_far (p := ⟨gb182, 1, none⟩) (Kd.R_far (p := ⟨gb182, 0, none⟩) (Kd.R_types HO_5.out BK182.out (by decide)) (fun _ hk => hk.2) (.int .i64 ((rd_T48 l0 x26_2).f0))) (fun _ hk => hk.2) (.int .i64 ((rd_T48 l0 x26_2).f1))) (fun _ hk => hk.2) (.int .i64 ((rd_T48 l0 x26_2).f2))) (fun _ hk => hk.2) (.int .i64 ((rd_T48 l0 x26_2).f3))) (fun _ hk => trivial))); (case aS => exact (below_size (by repeat (first | (with_reducible first | exact HB.out | apply below_alloc | apply pw_below_drewN | apply below_drew1 | refine below_set ?_ GE182.out) | exact HB.out)))); (case aL => have := LMc37.out; omega); intro v193 w40 ho hb hg hat; rw [← Ny192.out] at ho; have n0_ := Aside0.mk (blk_grown (g := gb182) (o := .cells #[.int .i64 ((rd_T48 l0 x26_2).f0), .int .i64 ((rd_T48 l0 x26_2).f1), .int .i64 ((rd_T48 l0 x26_2).f2), .int .i64 ((rd_T48 l0 x26_2).f3)] 48 (0, 0)) (by (with_reducible repeat (first | refine blk_drewN ?_ _ | refine blk_drew ?_ | refine blk_alloc ?_ _)); refine blk_put (cs := #[.int .i64 ((rd_T48 l0 x26_2).f0), .int .i64 ((rd_T48 l0 x26_2).f1), .int .i64 ((rd_T48 l0 x26_2).f2), .int .i64 0]) ?_ 3 _ rfl; (with_reducible repeat (first | refine blk_drewN ?_ _ | refine blk_drew ?_ | refine blk_alloc ?_ _)); refine blk_put (cs := #[.int .i64 ((rd_T48 l0 x26_2).f0), .int .i64 ((rd_T48 l0 x26_2).f1), .int .i64 0, .int .i64 0]) ?_ 2 _ rfl; (with_reducible repeat (first | refine blk_drewN ?_ _ | refine blk_drew ?_ | refine blk_alloc ?_ _)); refine blk_put (cs := #[.int .i64 ((rd_T48 l0 x26_2).f0), .int .i64 0, .int .i64 0, .int .i64 0]) ?_ 1 _ rfl; (with_reducible repeat (first | refine blk_drewN ?_ _ | refine blk_drew ?_ | refine blk_alloc ?_ _)); refine blk_put (cs := #[.int .i64 0, .int .i64 0, .int .i64 0, .int .i64 0]) ?_ 0 _ rfl; (with_reducible repeat (first | refine blk_drewN ?_ _ | refine blk_drew ?_ | refine blk_alloc ?_ _)); exact BK182.out) hg (Kd.R_ne HO_5.out BK182.out (by decide))); have n1_ := Aside0.mk (hb); have n2_ := Aside0.mk (ho); clear BK182; clear HB; clear HO_5; have BK182 := n0_; have HB := n1_; have HO194 := n2_; clear n0_ n1_ n2_; clear ho hb hg hat))
                                  go_roundg k2
                                  case measure => have := HJ2.out; have := HK2.out; omega
                                  case rel => exact ⟨(y192), (wrap64 (x26_2 + 1)), (by first | rfl | (simp; done) | (simp [*]; done)), H', ⟨by have := HJ2.out; have := HK2.out; omega⟩, ⟨by (with_reducible repeat (first | apply Kd.R_alloc | apply Kd.R_drewN | apply Kd.R_drew)); exact HO194.out⟩, ⟨by repeat (first | (with_reducible first | exact HB.out | apply below_alloc | apply pw_below_drewN | apply below_drew1 | refine below_set ?_ GE182.out) | exact HB.out)⟩⟩
                                · rw [if_neg c37] at H
                                  exact absurd H (by simp)
                              · rw [if_neg c36] at H
                                have c36b0 : (((rd_T48 l0 x26_2).f3) == 0) = false := beq_eq_false_iff_ne.mpr c36
                                have c36b1 : (((rd_T48 l0 x26_2).f3) != 0) = true := bne_iff_ne.mpr c36
                                obtain rfl := Option.some.inj H
                                have p181 : 0 ≤ (x26_2 : Int) := of_decide_eq_true (by first | (with_reducible assumption) | assumption)
                                have q181 : x26_2 < (l0.length : Int) := of_decide_eq_true (by first | (with_reducible assumption) | assumption)
                                obtain ⟨ad181, e181, hx181_0, hx181_1, hx181_2, hx181_3⟩ := at_T48 HR0.out x26_2 p181 q181
                                cases e181
                                replace hx181_0 := (HB.out.cell (World.block_lt_of_cell? w _ hx181_0)).trans hx181_0
                                replace hx181_1 := (HB.out.cell (World.block_lt_of_cell? w _ hx181_1)).trans hx181_1
                                replace hx181_2 := (HB.out.cell (World.block_lt_of_cell? w _ hx181_2)).trans hx181_2
                                replace hx181_3 := (HB.out.cell (World.block_lt_of_cell? w _ hx181_3)).trans hx181_3
                                replace p181 := eq_true p181
                                replace q181 := eq_true q181
                                go_wp2_with (first | ((with_reducible refine gate_dst (N := 7) rfl ?_); (try (refine gate_guard (by rfl) ?_; dsimp only)); refine box_event ?hg (N := 7) ?hd (cs := #[.int .i64 0, .int .i64 0, .int .i64 0, .int .i64 0]) (t := 48) ?hr ?_; (case hd => rfl); (case hg => rfl); (case hr => first | (go_simp; done) | (go_simp; rfl)); intro gb182 hg w41 hbox hb; have n0_ := Aside0.mk (Kd.R_below (by (with_reducible repeat (first | apply Kd.R_alloc | apply Kd.R_drewN | apply Kd.R_drew)); exact HO_5.out) hb); have n1_ := Aside0.mk (below_step (by repeat (first | (with_reducible first | exact HB.out | apply below_alloc | apply pw_below_drewN | apply below_drew1) | exact HB.out)) hb); have n2_ := Aside0.mk (hbox); have n3_ := Aside0.mk ((by rw [hg]; exact (below_size (by repeat (first | (with_reducible first | exact HB.out | apply below_alloc | apply pw_below_drewN | apply below_drew1) | exact HB.out))) : w.heap.size ≤ gb182)); have n4_ := Aside0.mk ((by rw [hg]; exact (below_size (by repeat (first | (with_reducible first | exact HB.out | apply below_alloc | apply pw_below_drewN | apply below_drew1) | exact HB.out))) : w.heap.size ≤ gb182)); clear HO_5; clear HB; have HO_5 := n0_; have HB := n1_; have BK182 := n2_; have GW182 := n3_; have GE182 := n4_; clear n0_ n1_ n2_ n3_ n4_; clear hb hbox hg; have hcz42_0 : w41.cell? ⟨gb182, 0, none⟩ = some (.int .i64 0) := (blk_cell BK182.out 0).trans rfl; have hcz42_1 : w41.cell? ⟨gb182, 1, none⟩ = some (.int .i64 0) := (blk_cell BK182.out 1).trans rfl; have hcz42_2 : w41.cell? ⟨gb182, 2, none⟩ = some (.int .i64 0) := (blk_cell BK182.out 2).trans rfl; have hcz42_3 : w41.cell? ⟨gb182, 3, none⟩ = some (.int .i64 0) := (blk_cell BK182.out 3).trans rfl; have hfz42_0 := blk_frozen BK182.out 0; have hfz42_1 := blk_frozen BK182.out 1; have hfz42_2 := blk_frozen BK182.out 2; have hfz42_3 := blk_frozen BK182.out 3) | ((with_reducible refine gate_callee (f := 54) rfl ?_); refine goesL_ (some 34) rfl rfl Try.func54 (by kernel_rfl) rfl #[.int .i64 ((rd_T48 l0 x26_2).f0)] rfl (by (try simp only [List.map_toArray, List.map_cons, List.map_nil]); first | done | rfl | (simp only [List.length_drop, List.length_take]; rfl)) ?_; (with_reducible refine (impl_parts.calls k2 ((rd_T48 l0 x26_2).f0) t183 t184 t185 _ A15.out).mono ?_); rintro e w' ⟨rfl, ⟨nd, rfl⟩⟩; refine ⟨_, rfl, ?_⟩) | ((with_reducible refine gate_callee (f := 32) rfl ?_); refine goesL_ (some 40) rfl rfl Try.func32 (by kernel_rfl) rfl #[.int .i64 ((rd_T48 l0 x26_2).f0), .int .i64 0, .int .i64 9] rfl (by (try simp only [List.map_toArray, List.map_cons, List.map_nil]); first | done | rfl | (simp only [List.length_drop, List.length_take]; rfl)) ?_; (with_reducible refine (impl_in.calls ((rd_T48 l0 x26_2).f0) 0 9 t186 _ A16.out).mono ?_); rintro e w' ⟨rfl, ⟨nd, rfl⟩⟩; refine ⟨_, rfl, ?_⟩) | ((with_reducible refine gate_callee (f := 32) rfl ?_); refine goesL_ (some 66) rfl rfl Try.func32 (by kernel_rfl) rfl #[.int .i64 ((rd_T48 l0 x26_2).f1), .int .i64 0, .int .i64 (wrap64 (a1 - 1))] rfl (by (try simp only [List.map_toArray, List.map_cons, List.map_nil]); first | done | rfl | (simp only [List.length_drop, List.length_take]; rfl)) ?_; (with_reducible refine (impl_in.calls ((rd_T48 l0 x26_2).f1) 0 (wrap64 (a1 - 1)) true _ A33.out).mono ?_); rintro e w' ⟨rfl, ⟨nd, rfl⟩⟩; refine ⟨_, rfl, ?_⟩))
                                go_ret
                                exact ⟨_, by first | rfl | (simp [errW_none, errW_some] <;> rfl) | (simp [*, errW_none, errW_some] <;> rfl), by first | exact Kd.R_nil _ _ _ _ _ | exact Kd.N_nil _ _ _ _ _ | exact Kd.V_nil _ _ _ _ _ | exact Kd.Q_nil _ _ _ _ _ | exact Kd.S_nil _ _ _ _ _, (by first | rfl | (intro _; rfl) | (intro h_; subst h_; exact absurd (show decide (0 < ((([] : List Int).length : Nat) : Int)) = true from by assumption) (by decide))), by repeat (first | (with_reducible first | exact HB.out | apply below_alloc | apply pw_below_drewN | apply below_drew1 | refine below_set ?_ GE182.out) | exact HB.out)⟩
                            · rw [if_neg c35] at H
                              have c35b0 : (((rd_T48 l0 x26_2).f2) == 0) = false := beq_eq_false_iff_ne.mpr c35
                              have c35b1 : (((rd_T48 l0 x26_2).f2) != 0) = true := bne_iff_ne.mpr c35
                              obtain rfl := Option.some.inj H
                              have p181 : 0 ≤ (x26_2 : Int) := of_decide_eq_true (by first | (with_reducible assumption) | assumption)
                              have q181 : x26_2 < (l0.length : Int) := of_decide_eq_true (by first | (with_reducible assumption) | assumption)
                              obtain ⟨ad181, e181, hx181_0, hx181_1, hx181_2, hx181_3⟩ := at_T48 HR0.out x26_2 p181 q181
                              cases e181
                              replace hx181_0 := (HB.out.cell (World.block_lt_of_cell? w _ hx181_0)).trans hx181_0
                              replace hx181_1 := (HB.out.cell (World.block_lt_of_cell? w _ hx181_1)).trans hx181_1
                              replace hx181_2 := (HB.out.cell (World.block_lt_of_cell? w _ hx181_2)).trans hx181_2
                              replace hx181_3 := (HB.out.cell (World.block_lt_of_cell? w _ hx181_3)).trans hx181_3
                              replace p181 := eq_true p181
                              replace q181 := eq_true q181
                              go_wp2_with (first | ((with_reducible refine gate_dst (N := 7) rfl ?_); (try (refine gate_guard (by rfl) ?_; dsimp only)); refine box_event ?hg (N := 7) ?hd (cs := #[.int .i64 0, .int .i64 0, .int .i64 0, .int .i64 0]) (t := 48) ?hr ?_; (case hd => rfl); (case hg => rfl); (case hr => first | (go_simp; done) | (go_simp; rfl)); intro gb182 hg w43 hbox hb; have n0_ := Aside0.mk (Kd.R_below (by (with_reducible repeat (first | apply Kd.R_alloc | apply Kd.R_drewN | apply Kd.R_drew)); exact HO_5.out) hb); have n1_ := Aside0.mk (below_step (by repeat (first | (with_reducible first | exact HB.out | apply below_alloc | apply pw_below_drewN | apply below_drew1) | exact HB.out)) hb); have n2_ := Aside0.mk (hbox); have n3_ := Aside0.mk ((by rw [hg]; exact (below_size (by repeat (first | (with_reducible first | exact HB.out | apply below_alloc | apply pw_below_drewN | apply below_drew1) | exact HB.out))) : w.heap.size ≤ gb182)); have n4_ := Aside0.mk ((by rw [hg]; exact (below_size (by repeat (first | (with_reducible first | exact HB.out | apply below_alloc | apply pw_below_drewN | apply below_drew1) | exact HB.out))) : w.heap.size ≤ gb182)); clear HO_5; clear HB; have HO_5 := n0_; have HB := n1_; have BK182 := n2_; have GW182 := n3_; have GE182 := n4_; clear n0_ n1_ n2_ n3_ n4_; clear hb hbox hg; have hcz44_0 : w43.cell? ⟨gb182, 0, none⟩ = some (.int .i64 0) := (blk_cell BK182.out 0).trans rfl; have hcz44_1 : w43.cell? ⟨gb182, 1, none⟩ = some (.int .i64 0) := (blk_cell BK182.out 1).trans rfl; have hcz44_2 : w43.cell? ⟨gb182, 2, none⟩ = some (.int .i64 0) := (blk_cell BK182.out 2).trans rfl; have hcz44_3 : w43.cell? ⟨gb182, 3, none⟩ = some (.int .i64 0) := (blk_cell BK182.out 3).trans rfl; have hfz44_0 := blk_frozen BK182.out 0; have hfz44_1 := blk_frozen BK182.out 1; have hfz44_2 := blk_frozen BK182.out 2; have hfz44_3 := blk_frozen BK182.out 3) | ((with_reducible refine gate_callee (f := 54) rfl ?_); refine goesL_ (some 34) rfl rfl Try.func54 (by kernel_rfl) rfl #[.int .i64 ((rd_T48 l0 x26_2).f0)] rfl (by (try simp only [List.map_toArray, List.map_cons, List.map_nil]); first | done | rfl | (simp only [List.length_drop, List.length_take]; rfl)) ?_; (with_reducible refine (impl_parts.calls k2 ((rd_T48 l0 x26_2).f0) t183 t184 t185 _ A15.out).mono ?_); rintro e w' ⟨rfl, ⟨nd, rfl⟩⟩; refine ⟨_, rfl, ?_⟩) | ((with_reducible refine gate_callee (f := 32) rfl ?_); refine goesL_ (some 40) rfl rfl Try.func32 (by kernel_rfl) rfl #[.int .i64 ((rd_T48 l0 x26_2).f0), .int .i64 0, .int .i64 9] rfl (by (try simp only [List.map_toArray, List.map_cons, List.map_nil]); first | done | rfl | (simp only [List.length_drop, List.length_take]; rfl)) ?_; (with_reducible refine (impl_in.calls ((rd_T48 l0 x26_2).f0) 0 9 t186 _ A16.out).mono ?_); rintro e w' ⟨rfl, ⟨nd, rfl⟩⟩; refine ⟨_, rfl, ?_⟩) | ((with_reducible refine gate_callee (f := 32) rfl ?_); refine goesL_ (some 66) rfl rfl Try.func32 (by kernel_rfl) rfl #[.int .i64 ((rd_T48 l0 x26_2).f1), .int .i64 0, .int .i64 (wrap64 (a1 - 1))] rfl (by (try simp only [List.map_toArray, List.map_cons, List.map_nil]); first | done | rfl | (simp only [List.length_drop, List.length_take]; rfl)) ?_; (with_reducible refine (impl_in.calls ((rd_T48 l0 x26_2).f1) 0 (wrap64 (a1 - 1)) true _ A33.out).mono ?_); rintro e w' ⟨rfl, ⟨nd, rfl⟩⟩; refine ⟨_, rfl, ?_⟩))
                              go_ret
                              exact ⟨_, by first | rfl | (simp [errW_none, errW_some] <;> rfl) | (simp [*, errW_none, errW_some] <;> rfl), by first | exact Kd.R_nil _ _ _ _ _ | exact Kd.N_nil _ _ _ _ _ | exact Kd.V_nil _ _ _ _ _ | exact Kd.Q_nil _ _ _ _ _ | exact Kd.S_nil _ _ _ _ _, (by first | rfl | (intro _; rfl) | (intro h_; subst h_; exact absurd (show decide (0 < ((([] : List Int).length : Nat) : Int)) = true from by assumption) (by decide))), by repeat (first | (with_reducible first | exact HB.out | apply below_alloc | apply pw_below_drewN | apply below_drew1 | refine below_set ?_ GE182.out) | exact HB.out)⟩
                          · replace c34 := Bool.eq_false_iff.mpr c34
                            subst c34
                            have H1 : (some ([] : List Int)) = some r := by rw [if_neg (show ¬ (false = true) by decide)] at H; exact H
                            clear H
                            have H := H1
                            clear H1
                            obtain rfl := Option.some.inj H
                            have p181 : 0 ≤ (x26_2 : Int) := of_decide_eq_true (by first | (with_reducible assumption) | assumption)
                            have q181 : x26_2 < (l0.length : Int) := of_decide_eq_true (by first | (with_reducible assumption) | assumption)
                            obtain ⟨ad181, e181, hx181_0, hx181_1, hx181_2, hx181_3⟩ := at_T48 HR0.out x26_2 p181 q181
                            cases e181
                            replace hx181_0 := (HB.out.cell (World.block_lt_of_cell? w _ hx181_0)).trans hx181_0
                            replace hx181_1 := (HB.out.cell (World.block_lt_of_cell? w _ hx181_1)).trans hx181_1
                            replace hx181_2 := (HB.out.cell (World.block_lt_of_cell? w _ hx181_2)).trans hx181_2
                            replace hx181_3 := (HB.out.cell (World.block_lt_of_cell? w _ hx181_3)).trans hx181_3
                            replace p181 := eq_true p181
                            replace q181 := eq_true q181
                            go_wp2_with (first | ((with_reducible refine gate_dst (N := 7) rfl ?_); (try (refine gate_guard (by rfl) ?_; dsimp only)); refine box_event ?hg (N := 7) ?hd (cs := #[.int .i64 0, .int .i64 0, .int .i64 0, .int .i64 0]) (t := 48) ?hr ?_; (case hd => rfl); (case hg => rfl); (case hr => first | (go_simp; done) | (go_simp; rfl)); intro gb182 hg w45 hbox hb; have n0_ := Aside0.mk (Kd.R_below (by (with_reducible repeat (first | apply Kd.R_alloc | apply Kd.R_drewN | apply Kd.R_drew)); exact HO_5.out) hb); have n1_ := Aside0.mk (below_step (by repeat (first | (with_reducible first | exact HB.out | apply below_alloc | apply pw_below_drewN | apply below_drew1) | exact HB.out)) hb); have n2_ := Aside0.mk (hbox); have n3_ := Aside0.mk ((by rw [hg]; exact (below_size (by repeat (first | (with_reducible first | exact HB.out | apply below_alloc | apply pw_below_drewN | apply below_drew1) | exact HB.out))) : w.heap.size ≤ gb182)); have n4_ := Aside0.mk ((by rw [hg]; exact (below_size (by repeat (first | (with_reducible first | exact HB.out | apply below_alloc | apply pw_below_drewN | apply below_drew1) | exact HB.out))) : w.heap.size ≤ gb182)); clear HO_5; clear HB; have HO_5 := n0_; have HB := n1_; have BK182 := n2_; have GW182 := n3_; have GE182 := n4_; clear n0_ n1_ n2_ n3_ n4_; clear hb hbox hg; have hcz46_0 : w45.cell? ⟨gb182, 0, none⟩ = some (.int .i64 0) := (blk_cell BK182.out 0).trans rfl; have hcz46_1 : w45.cell? ⟨gb182, 1, none⟩ = some (.int .i64 0) := (blk_cell BK182.out 1).trans rfl; have hcz46_2 : w45.cell? ⟨gb182, 2, none⟩ = some (.int .i64 0) := (blk_cell BK182.out 2).trans rfl; have hcz46_3 : w45.cell? ⟨gb182, 3, none⟩ = some (.int .i64 0) := (blk_cell BK182.out 3).trans rfl; have hfz46_0 := blk_frozen BK182.out 0; have hfz46_1 := blk_frozen BK182.out 1; have hfz46_2 := blk_frozen BK182.out 2; have hfz46_3 := blk_frozen BK182.out 3) | ((with_reducible refine gate_callee (f := 54) rfl ?_); refine goesL_ (some 34) rfl rfl Try.func54 (by kernel_rfl) rfl #[.int .i64 ((rd_T48 l0 x26_2).f0)] rfl (by (try simp only [List.map_toArray, List.map_cons, List.map_nil]); first | done | rfl | (simp only [List.length_drop, List.length_take]; rfl)) ?_; (with_reducible refine (impl_parts.calls k2 ((rd_T48 l0 x26_2).f0) t183 t184 t185 _ A15.out).mono ?_); rintro e w' ⟨rfl, ⟨nd, rfl⟩⟩; refine ⟨_, rfl, ?_⟩) | ((with_reducible refine gate_callee (f := 32) rfl ?_); refine goesL_ (some 40) rfl rfl Try.func32 (by kernel_rfl) rfl #[.int .i64 ((rd_T48 l0 x26_2).f0), .int .i64 0, .int .i64 9] rfl (by (try simp only [List.map_toArray, List.map_cons, List.map_nil]); first | done | rfl | (simp only [List.length_drop, List.length_take]; rfl)) ?_; (with_reducible refine (impl_in.calls ((rd_T48 l0 x26_2).f0) 0 9 t186 _ A16.out).mono ?_); rintro e w' ⟨rfl, ⟨nd, rfl⟩⟩; refine ⟨_, rfl, ?_⟩) | ((with_reducible refine gate_callee (f := 32) rfl ?_); refine goesL_ (some 66) rfl rfl Try.func32 (by kernel_rfl) rfl #[.int .i64 ((rd_T48 l0 x26_2).f1), .int .i64 0, .int .i64 (wrap64 (a1 - 1))] rfl (by (try simp only [List.map_toArray, List.map_cons, List.map_nil]); first | done | rfl | (simp only [List.length_drop, List.length_take]; rfl)) ?_; (with_reducible refine (impl_in.calls ((rd_T48 l0 x26_2).f1) 0 (wrap64 (a1 - 1)) false _ A33.out).mono ?_); rintro e w' ⟨rfl, ⟨nd, rfl⟩⟩; refine ⟨_, rfl, ?_⟩))
                            go_ret
                            exact ⟨_, by first | rfl | (simp [errW_none, errW_some] <;> rfl) | (simp [*, errW_none, errW_some] <;> rfl), by first | exact Kd.R_nil _ _ _ _ _ | exact Kd.N_nil _ _ _ _ _ | exact Kd.V_nil _ _ _ _ _ | exact Kd.Q_nil _ _ _ _ _ | exact Kd.S_nil _ _ _ _ _, (by first | rfl | (intro _; rfl) | (intro h_; subst h_; exact absurd (show decide (0 < ((([] : List Int).length : Nat) : Int)) = true from by assumption) (by decide))), by repeat (first | (with_reducible first | exact HB.out | apply below_alloc | apply pw_below_drewN | apply below_drew1 | refine below_set ?_ GE182.out) | exact HB.out)⟩
                        · rw [if_neg c32] at H
                          have c32b0 : (((rd_T48 l0 x26_2).f0) == 1) = false := beq_eq_false_iff_ne.mpr c32
                          have c32b1 : (((rd_T48 l0 x26_2).f0) != 1) = true := bne_iff_ne.mpr c32
                          by_cases c47 : t186 = true
                          · subst c47
                            have H1 : (if ((rd_T48 l0 x26_2).f1) = 0 then ((impl_in.f ((rd_T48 l0 x26_2).f2) 0 (wrap64 (x26_2 - 1))).bind fun t195 => (if t195 = true then ((impl_in.f ((rd_T48 l0 x26_2).f3) 0 (wrap64 (x26_2 - 1))).bind fun t196 => (if t196 = true then (if 0 ≤ ((rd_T48 l0 x26_2).f2) then (if ((rd_T48 l0 x26_2).f2) < (x5_2.length : Int) then (if (rd x5_2 ((rd_T48 l0 x26_2).f2)) = t184 then (if 0 ≤ ((rd_T48 l0 x26_2).f3) then (if ((rd_T48 l0 x26_2).f3) < (x5_2.length : Int) then (if (rd x5_2 ((rd_T48 l0 x26_2).f3)) = t184 then (if t183 = 2 then (if x5_2.length < 17592186044416 then (impl_kindsOf.l0 k2 a1 (x5_2 ++ [t185]) l0 (l0.length : Int) (wrap64 (x26_2 + 1))) else (none)) else (if (((rd_T48 l0 x26_2).f2) = ((rd_T48 l0 x26_2).f3)) then (if x5_2.length < 17592186044416 then (impl_kindsOf.l0 k2 a1 (x5_2 ++ [t185]) l0 (l0.length : Int) (wrap64 (x26_2 + 1))) else (none)) else (some ([] : List Int)))) else (some ([] : List Int))) else (none)) else (none)) else (some ([] : List Int))) else (none)) else (none)) else (some ([] : List Int)))) else (some ([] : List Int)))) else (some ([] : List Int))) = some r := by rw [if_pos rfl] at H; exact H
                            clear H
                            have H := H1
                            clear H1
                            by_cases c48 : ((rd_T48 l0 x26_2).f1) = 0
                            · rw [if_pos c48] at H
                              have c48b0 : (((rd_T48 l0 x26_2).f1) == 0) = true := beq_iff_eq.mpr c48
                              have c48b1 : (((rd_T48 l0 x26_2).f1) != 0) = false := bne_eq_false_iff_eq.mpr c48
                              clear c48
                              replace H := Option.bind_eq_some_iff.mp H
                              obtain ⟨t195, A490, H⟩ := H
                              replace H : (if t195 = true then ((impl_in.f ((rd_T48 l0 x26_2).f3) 0 (wrap64 (x26_2 - 1))).bind fun t196 => (if t196 = true then (if 0 ≤ ((rd_T48 l0 x26_2).f2) then (if ((rd_T48 l0 x26_2).f2) < (x5_2.length : Int) then (if (rd x5_2 ((rd_T48 l0 x26_2).f2)) = t184 then (if 0 ≤ ((rd_T48 l0 x26_2).f3) then (if ((rd_T48 l0 x26_2).f3) < (x5_2.length : Int) then (if (rd x5_2 ((rd_T48 l0 x26_2).f3)) = t184 then (if t183 = 2 then (if x5_2.length < 17592186044416 then (impl_kindsOf.l0 k2 a1 (x5_2 ++ [t185]) l0 (l0.length : Int) (wrap64 (x26_2 + 1))) else (none)) else (if (((rd_T48 l0 x26_2).f2) = ((rd_T48 l0 x26_2).f3)) then (if x5_2.length < 17592186044416 then (impl_kindsOf.l0 k2 a1 (x5_2 ++ [t185]) l0 (l0.length : Int) (wrap64 (x26_2 + 1))) else (none)) else (some ([] : List Int)))) else (some ([] : List Int))) else (none)) else (none)) else (some ([] : List Int))) else (none)) else (none)) else (some ([] : List Int)))) else (some ([] : List Int))) = some r := H
                              have A49 := Aside0.mk A490
                              clear A490
                              by_cases c50 : t195 = true
                              · subst c50
                                have H1 : ((impl_in.f ((rd_T48 l0 x26_2).f3) 0 (wrap64 (x26_2 - 1))).bind fun t196 => (if t196 = true then (if 0 ≤ ((rd_T48 l0 x26_2).f2) then (if ((rd_T48 l0 x26_2).f2) < (x5_2.length : Int) then (if (rd x5_2 ((rd_T48 l0 x26_2).f2)) = t184 then (if 0 ≤ ((rd_T48 l0 x26_2).f3) then (if ((rd_T48 l0 x26_2).f3) < (x5_2.length : Int) then (if (rd x5_2 ((rd_T48 l0 x26_2).f3)) = t184 then (if t183 = 2 then (if x5_2.length < 17592186044416 then (impl_kindsOf.l0 k2 a1 (x5_2 ++ [t185]) l0 (l0.length : Int) (wrap64 (x26_2 + 1))) else (none)) else (if (((rd_T48 l0 x26_2).f2) = ((rd_T48 l0 x26_2).f3)) then (if x5_2.length < 17592186044416 then (impl_kindsOf.l0 k2 a1 (x5_2 ++ [t185]) l0 (l0.length : Int) (wrap64 (x26_2 + 1))) else (none)) else (some ([] : List Int)))) else (some ([] : List Int))) else (none)) else (none)) else (some ([] : List Int))) else (none)) else (none)) else (some ([] : List Int)))) = some r := by rw [if_pos rfl] at H; exact H
                                clear H
                                have H := H1
                                clear H1
                                replace H := Option.bind_eq_some_iff.mp H
                                obtain ⟨t196, A510, H⟩ := H
                                replace H : (if t196 = true then (if 0 ≤ ((rd_T48 l0 x26_2).f2) then (if ((rd_T48 l0 x26_2).f2) < (x5_2.length : Int) then (if (rd x5_2 ((rd_T48 l0 x26_2).f2)) = t184 then (if 0 ≤ ((rd_T48 l0 x26_2).f3) then (if ((rd_T48 l0 x26_2).f3) < (x5_2.length : Int) then (if (rd x5_2 ((rd_T48 l0 x26_2).f3)) = t184 then (if t183 = 2 then (if x5_2.length < 17592186044416 then (impl_kindsOf.l0 k2 a1 (x5_2 ++ [t185]) l0 (l0.length : Int) (wrap64 (x26_2 + 1))) else (none)) else (if (((rd_T48 l0 x26_2).f2) = ((rd_T48 l0 x26_2).f3)) then (if x5_2.length < 17592186044416 then (impl_kindsOf.l0 k2 a1 (x5_2 ++ [t185]) l0 (l0.length : Int) (wrap64 (x26_2 + 1))) else (none)) else (some ([] : List Int)))) else (some ([] : List Int))) else (none)) else (none)) else (some ([] : List Int))) else (none)) else (none)) else (some ([] : List Int))) = some r := H
                                have A51 := Aside0.mk A510
                                clear A510
                                by_cases c52 : t196 = true
                                · subst c52
                                  have H1 : (if 0 ≤ ((rd_T48 l0 x26_2).f2) then (if ((rd_T48 l0 x26_2).f2) < (x5_2.length : Int) then (if (rd x5_2 ((rd_T48 l0 x26_2).f2)) = t184 then (if 0 ≤ ((rd_T48 l0 x26_2).f3) then (if ((rd_T48 l0 x26_2).f3) < (x5_2.length : Int) then (if (rd x5_2 ((rd_T48 l0 x26_2).f3)) = t184 then (if t183 = 2 then (if x5_2.length < 17592186044416 then (impl_kindsOf.l0 k2 a1 (x5_2 ++ [t185]) l0 (l0.length : Int) (wrap64 (x26_2 + 1))) else (none)) else (if (((rd_T48 l0 x26_2).f2) = ((rd_T48 l0 x26_2).f3)) then (if x5_2.length < 17592186044416 then (impl_kindsOf.l0 k2 a1 (x5_2 ++ [t185]) l0 (l0.length : Int) (wrap64 (x26_2 + 1))) else (none)) else (some ([] : List Int)))) else (some ([] : List Int))) else (none)) else (none)) else (some ([] : List Int))) else (none)) else (none)) = some r := by rw [if_pos rfl] at H; exact H
                                  clear H
                                  have H := H1
                                  clear H1
                                  by_cases c53 : 0 ≤ ((rd_T48 l0 x26_2).f2)
                                  · rw [if_pos c53] at H
                                    have c53b0 : decide (0 ≤ ((rd_T48 l0 x26_2).f2)) = true := decide_eq_true c53
                                    clear c53
                                    by_cases c54 : ((rd_T48 l0 x26_2).f2) < (x5_2.length : Int)
                                    · rw [if_pos c54] at H
                                      have c54b0 : decide (((rd_T48 l0 x26_2).f2) < (x5_2.length : Int)) = true := decide_eq_true c54
                                      clear c54
                                      by_cases c55 : (rd x5_2 ((rd_T48 l0 x26_2).f2)) = t184
                                      · rw [if_pos c55] at H
                                        have c55b0 : ((rd x5_2 ((rd_T48 l0 x26_2).f2)) == t184) = true := beq_iff_eq.mpr c55
                                        have c55b1 : ((rd x5_2 ((rd_T48 l0 x26_2).f2)) != t184) = false := bne_eq_false_iff_eq.mpr c55
                                        clear c55
                                        by_cases c56 : 0 ≤ ((rd_T48 l0 x26_2).f3)
                                        · rw [if_pos c56] at H
                                          have c56b0 : decide (0 ≤ ((rd_T48 l0 x26_2).f3)) = true := decide_eq_true c56
                                          clear c56
                                          by_cases c57 : ((rd_T48 l0 x26_2).f3) < (x5_2.length : Int)
                                          · rw [if_pos c57] at H
                                            have c57b0 : decide (((rd_T48 l0 x26_2).f3) < (x5_2.length : Int)) = true := decide_eq_true c57
                                            clear c57
                                            by_cases c58 : (rd x5_2 ((rd_T48 l0 x26_2).f3)) = t184
                                            · rw [if_pos c58] at H
                                              have c58b0 : ((rd x5_2 ((rd_T48 l0 x26_2).f3)) == t184) = true := beq_iff_eq.mpr c58
                                              have c58b1 : ((rd x5_2 ((rd_T48 l0 x26_2).f3)) != t184) = false := bne_eq_false_iff_eq.mpr c58
                                              clear c58
                                              by_cases c59 : t183 = 2
                                              · rw [if_pos c59] at H
                                                have c59b0 : (t183 == 2) = true := beq_iff_eq.mpr c59
                                                have c59b1 : (t183 != 2) = false := bne_eq_false_iff_eq.mpr c59
                                                clear c59
                                                by_cases c60 : x5_2.length < 17592186044416
                                                · rw [if_pos c60] at H
                                                  have LMc60 := Aside0.mk c60
                                                  clear c60
                                                  obtain ⟨y199, hy199⟩ : ∃ y_ : List Int, y_ = (x5_2 ++ [t185]) := ⟨_, rfl⟩
                                                  replace H : (impl_kindsOf.l0 k2 a1 y199 l0 (l0.length : Int) (wrap64 (x26_2 + 1))) = some r := by first | (rw [hy199]; with_reducible exact H) | (have H2_ := (Option.bind_some _ _).symm.trans H; rw [hy199]; with_reducible exact H2_) | (have H2_ := (Option.bind_some _ _).symm.trans H; with_reducible exact H2_) | with_reducible exact H | (rw [hy199]; exact H) | exact H
                                                  have Ny199 := Aside0.mk hy199
                                                  clear hy199
                                                  have H' := Aside0.mk H
                                                  clear H
                                                  have p181 : 0 ≤ (x26_2 : Int) := of_decide_eq_true (by first | (with_reducible assumption) | assumption)
                                                  have q181 : x26_2 < (l0.length : Int) := of_decide_eq_true (by first | (with_reducible assumption) | assumption)
                                                  obtain ⟨ad181, e181, hx181_0, hx181_1, hx181_2, hx181_3⟩ := at_T48 HR0.out x26_2 p181 q181
                                                  cases e181
                                                  replace hx181_0 := (HB.out.cell (World.block_lt_of_cell? w _ hx181_0)).trans hx181_0
                                                  replace hx181_1 := (HB.out.cell (World.block_lt_of_cell? w _ hx181_1)).trans hx181_1
                                                  replace hx181_2 := (HB.out.cell (World.block_lt_of_cell? w _ hx181_2)).trans hx181_2
                                                  replace hx181_3 := (HB.out.cell (World.block_lt_of_cell? w _ hx181_3)).trans hx181_3
                                                  replace p181 := eq_true p181
                                                  replace q181 := eq_true q181
                                                  go_wp2_with (first | ((with_reducible refine gate_dst (N := 7) rfl ?_); (try (refine gate_guard (by rfl) ?_; dsimp only)); refine box_event ?hg (N := 7) ?hd (cs := #[.int .i64 0, .int .i64 0, .int .i64 0, .int .i64 0]) (t := 48) ?hr ?_; (case hd => rfl); (case hg => rfl); (case hr => first | (go_simp; done) | (go_simp; rfl)); intro gb182 hg w61 hbox hb; have n0_ := Aside0.mk (Kd.R_below (by (with_reducible repeat (first | apply Kd.R_alloc | apply Kd.R_drewN | apply Kd.R_drew)); exact HO_5.out) hb); have n1_ := Aside0.mk (below_step (by repeat (first | (with_reducible first | exact HB.out | apply below_alloc | apply pw_below_drewN | apply below_drew1) | exact HB.out)) hb); have n2_ := Aside0.mk (hbox); have n3_ := Aside0.mk ((by rw [hg]; exact (below_size (by repeat (first | (with_reducible first | exact HB.out | apply below_alloc | apply pw_below_drewN | apply below_drew1) | exact HB.out))) : w.heap.size ≤ gb182)); have n4_ := Aside0.mk ((by rw [hg]; exact (below_size (by repeat (first | (with_reducible first | exact HB.out | apply below_alloc | apply pw_below_drewN | apply below_drew1) | exact HB.out))) : w.heap.size ≤ gb182)); clear HO_5; clear HB; have HO_5 := n0_; have HB := n1_; have BK182 := n2_; have GW182 := n3_; have GE182 := n4_; clear n0_ n1_ n2_ n3_ n4_; clear hb hbox hg; have hcz62_0 : w61.cell? ⟨gb182, 0, none⟩ = some (.int .i64 0) := (blk_cell BK182.out 0).trans rfl; have hcz62_1 : w61.cell? ⟨gb182, 1, none⟩ = some (.int .i64 0) := (blk_cell BK182.out 1).trans rfl; have hcz62_2 : w61.cell? ⟨gb182, 2, none⟩ = some (.int .i64 0) := (blk_cell BK182.out 2).trans rfl; have hcz62_3 : w61.cell? ⟨gb182, 3, none⟩ = some (.int .i64 0) := (blk_cell BK182.out 3).trans rfl; have hfz62_0 := blk_frozen BK182.out 0; have hfz62_1 := blk_frozen BK182.out 1; have hfz62_2 := blk_frozen BK182.out 2; have hfz62_3 := blk_frozen BK182.out 3) | ((with_reducible refine gate_callee (f := 54) rfl ?_); refine goesL_ (some 34) rfl rfl Try.func54 (by kernel_rfl) rfl #[.int .i64 ((rd_T48 l0 x26_2).f0)] rfl (by (try simp only [List.map_toArray, List.map_cons, List.map_nil]); first | done | rfl | (simp only [List.length_drop, List.length_take]; rfl)) ?_; (with_reducible refine (impl_parts.calls k2 ((rd_T48 l0 x26_2).f0) t183 t184 t185 _ A15.out).mono ?_); rintro e w' ⟨rfl, ⟨nd, rfl⟩⟩; refine ⟨_, rfl, ?_⟩) | ((with_reducible refine gate_callee (f := 32) rfl ?_); refine goesL_ (some 40) rfl rfl Try.func32 (by kernel_rfl) rfl #[.int .i64 ((rd_T48 l0 x26_2).f0), .int .i64 0, .int .i64 9] rfl (by (try simp only [List.map_toArray, List.map_cons, List.map_nil]); first | done | rfl | (simp only [List.length_drop, List.length_take]; rfl)) ?_; (with_reducible refine (impl_in.calls ((rd_T48 l0 x26_2).f0) 0 9 true _ A16.out).mono ?_); rintro e w' ⟨rfl, ⟨nd, rfl⟩⟩; refine ⟨_, rfl, ?_⟩) | (go_at_call 32; (with_reducible refine (impl_in.calls ((rd_T48 l0 x26_2).f2) 0 (wrap64 (x26_2 - 1)) true _ A49.out).mono ?_); rintro e w' ⟨rfl, ⟨nd, rfl⟩⟩) | (go_at_call 32; (with_reducible refine (impl_in.calls ((rd_T48 l0 x26_2).f3) 0 (wrap64 (x26_2 - 1)) true _ A51.out).mono ?_); rintro e w' ⟨rfl, ⟨nd, rfl⟩⟩; obtain ⟨Ao63, co63, eo63⟩ := Kd.R_slice HO_5.out; subst eo63; have p197 : 0 ≤ (((rd_T48 l0 x26_2).f2) : Int) := of_decide_eq_true (by first | (with_reducible assumption) | assumption); have q197 : ((rd_T48 l0 x26_2).f2) < (x5_2.length : Int) := of_decide_eq_true (by first | (with_reducible assumption) | assumption); obtain ⟨ad197, e197, hx197_0⟩ := Kd.at_int (Kd.R_reads' HO_5.out).2.2 ((rd_T48 l0 x26_2).f2) p197 q197; cases e197; have hn197_0 : ad197.block ≠ gb182 := Kd.own_blk (Kd.R_ne HO_5.out BK182.out (by decide)); have hn197_1 : ad197.block ≠ gb182 := Kd.own_blk (Kd.R_ne HO_5.out BK182.out (by decide)); have hn197_2 : ad197.block ≠ gb182 := Kd.own_blk (Kd.R_ne HO_5.out BK182.out (by decide)); have hn197_3 : ad197.block ≠ gb182 := Kd.own_blk (Kd.R_ne HO_5.out BK182.out (by decide)); replace hx197_0 := (cell_far (p := ⟨gb182, 0, none⟩) (by first | (rw [add_block]; exact hn197_0) | (show (Addr.add _ _).block ≠ _; rw [add_block]; exact hn197_0) | exact hn197_0) (.int .i64 ((rd_T48 l0 x26_2).f0))).trans hx197_0; replace hx197_0 := (cell_far (p := ⟨gb182, 1, none⟩) (by first | (rw [add_block]; exact hn197_1) | (show (Addr.add _ _).block ≠ _; rw [add_block]; exact hn197_1) | exact hn197_1) (.int .i64 ((rd_T48 l0 x26_2).f1))).trans hx197_0; replace hx197_0 := (cell_far (p := ⟨gb182, 2, none⟩) (by first | (rw [add_block]; exact hn197_2) | (show (Addr.add _ _).block ≠ _; rw [add_block]; exact hn197_2) | exact hn197_2) (.int .i64 ((rd_T48 l0 x26_2).f2))).trans hx197_0; replace hx197_0 := (cell_far (p := ⟨gb182, 3, none⟩) (by first | (rw [add_block]; exact hn197_3) | (show (Addr.add _ _).block ≠ _; rw [add_block]; exact hn197_3) | exact hn197_3) (.int .i64 ((rd_T48 l0 x26_2).f3))).trans hx197_0; clear hn197_0; clear hn197_1; clear hn197_2; clear hn197_3; replace p197 := eq_true p197; replace q197 := eq_true q197; have p198 : 0 ≤ (((rd_T48 l0 x26_2).f3) : Int) := of_decide_eq_true (by first | (with_reducible assumption) | assumption); have q198 : ((rd_T48 l0 x26_2).f3) < (x5_2.length : Int) := of_decide_eq_true (by first | (with_reducible assumption) | assumption); obtain ⟨ad198, e198, hx198_0⟩ := Kd.at_int (Kd.R_reads' HO_5.out).2.2 ((rd_T48 l0 x26_2).f3) p198 q198; obtain rfl : ad197 = ad198 := (by injection e198); have hn198_0 : ad197.block ≠ gb182 := Kd.own_blk (Kd.R_ne HO_5.out BK182.out (by decide)); have hn198_1 : ad197.block ≠ gb182 := Kd.own_blk (Kd.R_ne HO_5.out BK182.out (by decide)); have hn198_2 : ad197.block ≠ gb182 := Kd.own_blk (Kd.R_ne HO_5.out BK182.out (by decide)); have hn198_3 : ad197.block ≠ gb182 := Kd.own_blk (Kd.R_ne HO_5.out BK182.out (by decide)); replace hx198_0 := (cell_far (p := ⟨gb182, 0, none⟩) (by first | (rw [add_block]; exact hn198_0) | (show (Addr.add _ _).block ≠ _; rw [add_block]; exact hn198_0) | exact hn198_0) (.int .i64 ((rd_T48 l0 x26_2).f0))).trans hx198_0; replace hx198_0 := (cell_far (p := ⟨gb182, 1, none⟩) (by first | (rw [add_block]; exact hn198_1) | (show (Addr.add _ _).block ≠ _; rw [add_block]; exact hn198_1) | exact hn198_1) (.int .i64 ((rd_T48 l0 x26_2).f1))).trans hx198_0; replace hx198_0 := (cell_far (p := ⟨gb182, 2, none⟩) (by first | (rw [add_block]; exact hn198_2) | (show (Addr.add _ _).block ≠ _; rw [add_block]; exact hn198_2) | exact hn198_2) (.int .i64 ((rd_T48 l0 x26_2).f2))).trans hx198_0; replace hx198_0 := (cell_far (p := ⟨gb182, 3, none⟩) (by first | (rw [add_block]; exact hn198_3) | (show (Addr.add _ _).block ≠ _; rw [add_block]; exact hn198_3) | exact hn198_3) (.int .i64 ((rd_T48 l0 x26_2).f3))).trans hx198_0; clear hn198_0; clear hn198_1; clear hn198_2; clear hn198_3; replace p198 := eq_true p198; replace q198 := eq_true q198) | ((with_reducible refine gate_builtin (b := .append) (xs := #[.tmp 127, .tmp 129]) rfl ?_); (try (refine gate_guard (by rfl) ?_; dsimp only)); at_builtin; refine Kd.R_append (Kd.int .i64) (w0 := w) w.heap.size rfl (.tmp 127) (.tmp 129) 32 3 (.int .i64 0) 8 rfl Try.underlying32 info3 rfl (by decide) (by omega) (.slice (some ad197) x5_2.length co63) x5_2 t185 [.int .i64 t185] (fun _ => True) (fun _ => False) rfl (by first | (go_simp; done) | (go_simp; rfl)) ?aP (fun _ hk => hk.elim) ?aF ?aO ?aB ?aS ?aL ?_; (case aP => exact rfl); (case aB => exact (by repeat (first | (with_reducible first | exact HB.out | apply below_alloc | apply pw_below_drewN | apply below_drew1 | refine below_set ?_ GE182.out) | exact HB.out))); (case aF => exact (fun _ _ => trivial)); (case aO => exact (by (with_reducible repeat (first | apply Kd.R_alloc | apply Kd.R_drewN | apply Kd.R_drew)); exact Kd.R_mono (Kd.R_far (p := ⟨gb182, 3, none⟩) (Kd.R_far (p := ⟨gb182, 2, none⟩) (Kd.R_far (p := ⟨gb182, 1, none⟩) (Kd.R_far (p := ⟨gb182, 0, none⟩) (Kd.R_types HO_5.out BK182.out (by decide)) (fun _ hk => hk.2) (.int .i64 ((rd_T48 l0 x26_2).f0))) (fun _ hk => hk.2) (.int .i64 ((rd_T48 l0 x26_2).f1))) (fun _ hk => hk.2) (.int .i64 ((rd_T48 l0 x26_2).f2))) (fun _ hk => hk.2) (.int .i64 ((rd_T48 l0 x26_2).f3))) (fun _ hk => trivial))); (case aS => exact (below_size (by repeat (first | (with_reducible first | exact HB.out | apply below_alloc | apply pw_below_drewN | apply below_drew1 | refine below_set ?_ GE182.out) | exact HB.out)))); (case aL => have := LMc60.out; omega); intro v200 w64 ho hb hg hat; rw [← Ny199.out] at ho; have n0_ := Aside0.mk (blk_grown (g := gb182) (o := .cells #[.int .i64 ((rd_T48 l0 x26_2).f0), .int .i64 ((rd_T48 l0 x26_2).f1), .int .i64 ((rd_T48 l0 x26_2).f2), .int .i64 ((rd_T48 l0 x26_2).f3)] 48 (0, 0)) (by (with_reducible repeat (first | refine blk_drewN ?_ _ | refine blk_drew ?_ | refine blk_alloc ?_ _)); refine blk_put (cs := #[.int .i64 ((rd_T48 l0 x26_2).f0), .int .i64 ((rd_T48 l0 x26_2).f1), .int .i64 ((rd_T48 l0 x26_2).f2), .int .i64 0]) ?_ 3 _ rfl; (with_reducible repeat (first | refine blk_drewN ?_ _ | refine blk_drew ?_ | refine blk_alloc ?_ _)); refine blk_put (cs := #[.int .i64 ((rd_T48 l0 x26_2).f0), .int .i64 ((rd_T48 l0 x26_2).f1), .int .i64 0, .int .i64 0]) ?_ 2 _ rfl; (with_reducible repeat (first | refine blk_drewN ?_ _ | refine blk_drew ?_ | refine blk_alloc ?_ _)); refine blk_put (cs := #[.int .i64 ((rd_T48 l0 x26_2).f0), .int .i64 0, .int .i64 0, .int .i64 0]) ?_ 1 _ rfl; (with_reducible repeat (first | refine blk_drewN ?_ _ | refine blk_drew ?_ | refine blk_alloc ?_ _)); refine blk_put (cs := #[.int .i64 0, .int .i64 0, .int .i64 0, .int .i64 0]) ?_ 0 _ rfl; (with_reducible repeat (first | refine blk_drewN ?_ _ | refine blk_drew ?_ | refine blk_alloc ?_ _)); exact BK182.out) hg (Kd.R_ne HO_5.out BK182.out (by decide))); have n1_ := Aside0.mk (hb); have n2_ := Aside0.mk (ho); clear BK182; clear HB; clear HO_5; have BK182 := n0_; have HB := n1_; have HO201 := n2_; clear n0_ n1_ n2_; clear ho hb hg hat))
                                                  go_roundg k2
                                                  case measure => have := HJ2.out; have := HK2.out; omega
                                                  case rel => exact ⟨(y199), (wrap64 (x26_2 + 1)), (by first | rfl | (simp; done) | (simp [*]; done)), H', ⟨by have := HJ2.out; have := HK2.out; omega⟩, ⟨by (with_reducible repeat (first | apply Kd.R_alloc | apply Kd.R_drewN | apply Kd.R_drew)); exact HO201.out⟩, ⟨by repeat (first | (with_reducible first | exact HB.out | apply below_alloc | apply pw_below_drewN | apply below_drew1 | refine below_set ?_ GE182.out) | exact HB.out)⟩⟩
                                                · rw [if_neg c60] at H
                                                  exact absurd H (by simp)
                                              · rw [if_neg c59] at H
                                                have c59b0 : (t183 == 2) = false := beq_eq_false_iff_ne.mpr c59
                                                have c59b1 : (t183 != 2) = true := bne_iff_ne.mpr c59
                                                by_cases c65 : (((rd_T48 l0 x26_2).f2) = ((rd_T48 l0 x26_2).f3))
                                                · rw [if_pos c65] at H
                                                  have c65b0 : (((rd_T48 l0 x26_2).f2) == ((rd_T48 l0 x26_2).f3)) = true := beq_iff_eq.mpr c65
                                                  have c65b1 : (((rd_T48 l0 x26_2).f2) != ((rd_T48 l0 x26_2).f3)) = false := bne_eq_false_iff_eq.mpr c65
                                                  clear c65
                                                  by_cases c66 : x5_2.length < 17592186044416
                                                  · rw [if_pos c66] at H
                                                    have LMc66 := Aside0.mk c66
                                                    clear c66
                                                    obtain ⟨y202, hy202⟩ : ∃ y_ : List Int, y_ = (x5_2 ++ [t185]) := ⟨_, rfl⟩
                                                    replace H : (impl_kindsOf.l0 k2 a1 y202 l0 (l0.length : Int) (wrap64 (x26_2 + 1))) = some r := by first | (rw [hy202]; with_reducible exact H) | (have H2_ := (Option.bind_some _ _).symm.trans H; rw [hy202]; with_reducible exact H2_) | (have H2_ := (Option.bind_some _ _).symm.trans H; with_reducible exact H2_) | with_reducible exact H | (rw [hy202]; exact H) | exact H
                                                    have Ny202 := Aside0.mk hy202
                                                    clear hy202
                                                    have H' := Aside0.mk H
                                                    clear H
                                                    have p181 : 0 ≤ (x26_2 : Int) := of_decide_eq_true (by first | (with_reducible assumption) | assumption)
                                                    have q181 : x26_2 < (l0.length : Int) := of_decide_eq_true (by first | (with_reducible assumption) | assumption)
                                                    obtain ⟨ad181, e181, hx181_0, hx181_1, hx181_2, hx181_3⟩ := at_T48 HR0.out x26_2 p181 q181
                                                    cases e181
                                                    replace hx181_0 := (HB.out.cell (World.block_lt_of_cell? w _ hx181_0)).trans hx181_0
                                                    replace hx181_1 := (HB.out.cell (World.block_lt_of_cell? w _ hx181_1)).trans hx181_1
                                                    replace hx181_2 := (HB.out.cell (World.block_lt_of_cell? w _ hx181_2)).trans hx181_2
                                                    replace hx181_3 := (HB.out.cell (World.block_lt_of_cell? w _ hx181_3)).trans hx181_3
                                                    replace p181 := eq_true p181
                                                    replace q181 := eq_true q181
                                                    go_wp2_with (first | ((with_reducible refine gate_dst (N := 7) rfl ?_); (try (refine gate_guard (by rfl) ?_; dsimp only)); refine box_event ?hg (N := 7) ?hd (cs := #[.int .i64 0, .int .i64 0, .int .i64 0, .int .i64 0]) (t := 48) ?hr ?_; (case hd => rfl); (case hg => rfl); (case hr => first | (go_simp; done) | (go_simp; rfl)); intro gb182 hg w67 hbox hb; have n0_ := Aside0.mk (Kd.R_below (by (with_reducible repeat (first | apply Kd.R_alloc | apply Kd.R_drewN | apply Kd.R_drew)); exact HO_5.out) hb); have n1_ := Aside0.mk (below_step (by repeat (first | (with_reducible first | exact HB.out | apply below_alloc | apply pw_below_drewN | apply below_drew1) | exact HB.out)) hb); have n2_ := Aside0.mk (hbox); have n3_ := Aside0.mk ((by rw [hg]; exact (below_size (by repeat (first | (with_reducible first | exact HB.out | apply below_alloc | apply pw_below_drewN | apply below_drew1) | exact HB.out))) : w.heap.size ≤ gb182)); have n4_ := Aside0.mk ((by rw [hg]; exact (below_size (by repeat (first | (with_reducible first | exact HB.out | apply below_alloc | apply pw_below_drewN | apply below_drew1) | exact HB.out))) : w.heap.size ≤ gb182)); clear HO_5; clear HB; have HO_5 := n0_; have HB := n1_; have BK182 := n2_; have GW182 := n3_; have GE182 := n4_; clear n0_ n1_ n2_ n3_ n4_; clear hb hbox hg; have hcz68_0 : w67.cell? ⟨gb182, 0, none⟩ = some (.int .i64 0) := (blk_cell BK182.out 0).trans rfl; have hcz68_1 : w67.cell? ⟨gb182, 1, none⟩ = some (.int .i64 0) := (blk_cell BK182.out 1).trans rfl; have hcz68_2 : w67.cell? ⟨gb182, 2, none⟩ = some (.int .i64 0) := (blk_cell BK182.out 2).trans rfl; have hcz68_3 : w67.cell? ⟨gb182, 3, none⟩ = some (.int .i64 0) := (blk_cell BK182.out 3).trans rfl; have hfz68_0 := blk_frozen BK182.out 0; have hfz68_1 := blk_frozen BK182.out 1; have hfz68_2 := blk_frozen BK182.out 2; have hfz68_3 := blk_frozen BK182.out 3) | ((with_reducible refine gate_callee (f := 54) rfl ?_); refine goesL_ (some 34) rfl rfl Try.func54 (by kernel_rfl) rfl #[.int .i64 ((rd_T48 l0 x26_2).f0)] rfl (by (try simp only [List.map_toArray, List.map_cons, List.map_nil]); first | done | rfl | (simp only [List.length_drop, List.length_take]; rfl)) ?_; (with_reducible refine (impl_parts.calls k2 ((rd_T48 l0 x26_2).f0) t183 t184 t185 _ A15.out).mono ?_); rintro e w' ⟨rfl, ⟨nd, rfl⟩⟩; refine ⟨_, rfl, ?_⟩) | ((with_reducible refine gate_callee (f := 32) rfl ?_); refine goesL_ (some 40) rfl rfl Try.func32 (by kernel_rfl) rfl #[.int .i64 ((rd_T48 l0 x26_2).f0), .int .i64 0, .int .i64 9] rfl (by (try simp only [List.map_toArray, List.map_cons, List.map_nil]); first | done | rfl | (simp only [List.length_drop, List.length_take]; rfl)) ?_; (with_reducible refine (impl_in.calls ((rd_T48 l0 x26_2).f0) 0 9 true _ A16.out).mono ?_); rintro e w' ⟨rfl, ⟨nd, rfl⟩⟩; refine ⟨_, rfl, ?_⟩) | (go_at_call 32; (with_reducible refine (impl_in.calls ((rd_T48 l0 x26_2).f2) 0 (wrap64 (x26_2 - 1)) true _ A49.out).mono ?_); rintro e w' ⟨rfl, ⟨nd, rfl⟩⟩) | (go_at_call 32; (with_reducible refine (impl_in.calls ((rd_T48 l0 x26_2).f3) 0 (wrap64 (x26_2 - 1)) true _ A51.out).mono ?_); rintro e w' ⟨rfl, ⟨nd, rfl⟩⟩; obtain ⟨Ao69, co69, eo69⟩ := Kd.R_slice HO_5.out; subst eo69; have p197 : 0 ≤ (((rd_T48 l0 x26_2).f2) : Int) := of_decide_eq_true (by first | (with_reducible assumption) | assumption); have q197 : ((rd_T48 l0 x26_2).f2) < (x5_2.length : Int) := of_decide_eq_true (by first | (with_reducible assumption) | assumption); obtain ⟨ad197, e197, hx197_0⟩ := Kd.at_int (Kd.R_reads' HO_5.out).2.2 ((rd_T48 l0 x26_2).f2) p197 q197; cases e197; have hn197_0 : ad197.block ≠ gb182 := Kd.own_blk (Kd.R_ne HO_5.out BK182.out (by decide)); have hn197_1 : ad197.block ≠ gb182 := Kd.own_blk (Kd.R_ne HO_5.out BK182.out (by decide)); have hn197_2 : ad197.block ≠ gb182 := Kd.own_blk (Kd.R_ne HO_5.out BK182.out (by decide)); have hn197_3 : ad197.block ≠ gb182 := Kd.own_blk (Kd.R_ne HO_5.out BK182.out (by decide)); replace hx197_0 := (cell_far (p := ⟨gb182, 0, none⟩) (by first | (rw [add_block]; exact hn197_0) | (show (Addr.add _ _).block ≠ _; rw [add_block]; exact hn197_0) | exact hn197_0) (.int .i64 ((rd_T48 l0 x26_2).f0))).trans hx197_0; replace hx197_0 := (cell_far (p := ⟨gb182, 1, none⟩) (by first | (rw [add_block]; exact hn197_1) | (show (Addr.add _ _).block ≠ _; rw [add_block]; exact hn197_1) | exact hn197_1) (.int .i64 ((rd_T48 l0 x26_2).f1))).trans hx197_0; replace hx197_0 := (cell_far (p := ⟨gb182, 2, none⟩) (by first | (rw [add_block]; exact hn197_2) | (show (Addr.add _ _).block ≠ _; rw [add_block]; exact hn197_2) | exact hn197_2) (.int .i64 ((rd_T48 l0 x26_2).f2))).trans hx197_0; replace hx197_0 := (cell_far (p := ⟨gb182, 3, none⟩) (by first | (rw [add_block]; exact hn197_3) | (show (Addr.add _ _).block ≠ _; rw [add_block]; exact hn197_3) | exact hn197_3) (.int .i64 ((rd_T48 l0 x26_2).f3))).trans hx197_0; clear hn197_0; clear hn197_1; clear hn197_2; clear hn197_3; replace p197 := eq_true p197; replace q197 := eq_true q197; have p198 : 0 ≤ (((rd_T48 l0 x26_2).f3) : Int) := of_decide_eq_true (by first | (with_reducible assumption) | assumption); have q198 : ((rd_T48 l0 x26_2).f3) < (x5_2.length : Int) := of_decide_eq_true (by first | (with_reducible assumption) | assumption); obtain ⟨ad198, e198, hx198_0⟩ := Kd.at_int (Kd.R_reads' HO_5.out).2.2 ((rd_T48 l0 x26_2).f3) p198 q198; obtain rfl : ad197 = ad198 := (by injection e198); have hn198_0 : ad197.block ≠ gb182 := Kd.own_blk (Kd.R_ne HO_5.out BK182.out (by decide)); have hn198_1 : ad197.block ≠ gb182 := Kd.own_blk (Kd.R_ne HO_5.out BK182.out (by decide)); have hn198_2 : ad197.block ≠ gb182 := Kd.own_blk (Kd.R_ne HO_5.out BK182.out (by decide)); have hn198_3 : ad197.block ≠ gb182 := Kd.own_blk (Kd.R_ne HO_5.out BK182.out (by decide)); replace hx198_0 := (cell_far (p := ⟨gb182, 0, none⟩) (by first | (rw [add_block]; exact hn198_0) | (show (Addr.add _ _).block ≠ _; rw [add_block]; exact hn198_0) | exact hn198_0) (.int .i64 ((rd_T48 l0 x26_2).f0))).trans hx198_0; replace hx198_0 := (cell_far (p := ⟨gb182, 1, none⟩) (by first | (rw [add_block]; exact hn198_1) | (show (Addr.add _ _).block ≠ _; rw [add_block]; exact hn198_1) | exact hn198_1) (.int .i64 ((rd_T48 l0 x26_2).f1))).trans hx198_0; replace hx198_0 := (cell_far (p := ⟨gb182, 2, none⟩) (by first | (rw [add_block]; exact hn198_2) | (show (Addr.add _ _).block ≠ _; rw [add_block]; exact hn198_2) | exact hn198_2) (.int .i64 ((rd_T48 l0 x26_2).f2))).trans hx198_0; replace hx198_0 := (cell_far (p := ⟨gb182, 3, none⟩) (by first | (rw [add_block]; exact hn198_3) | (show (Addr.add _ _).block ≠ _; rw [add_block]; exact hn198_3) | exact hn198_3) (.int .i64 ((rd_T48 l0 x26_2).f3))).trans hx198_0; clear hn198_0; clear hn198_1; clear hn198_2; clear hn198_3; replace p198 := eq_true p198; replace q198 := eq_true q198) | ((with_reducible refine gate_builtin (b := .append) (xs := #[.tmp 127, .tmp 129]) rfl ?_); (try (refine gate_guard (by rfl) ?_; dsimp only)); at_builtin; refine Kd.R_append (Kd.int .i64) (w0 := w) w.heap.size rfl (.tmp 127) (.tmp 129) 32 3 (.int .i64 0) 8 rfl Try.underlying32 info3 rfl (by decide) (by omega) (.slice (some ad197) x5_2.length co69) x5_2 t185 [.int .i64 t185] (fun _ => True) (fun _ => False) rfl (by first | (go_simp; done) | (go_simp; rfl)) ?aP (fun _ hk => hk.elim) ?aF ?aO ?aB ?aS ?aL ?_; (case aP => exact rfl); (case aB => exact (by repeat (first | (with_reducible first | exact HB.out | apply below_alloc | apply pw_below_drewN | apply below_drew1 | refine below_set ?_ GE182.out) | exact HB.out))); (case aF => exact (fun _ _ => trivial)); (case aO => exact (by (with_reducible repeat (first | apply Kd.R_alloc | apply Kd.R_drewN | apply Kd.R_drew)); exact Kd.R_mono (Kd.R_far (p := ⟨gb182, 3, none⟩) (Kd.R_far (p := ⟨gb182, 2, none⟩) (Kd.R_far (p := ⟨gb182, 1, none⟩) (Kd.R_far (p := ⟨gb182, 0, none⟩) (Kd.R_types HO_5.out BK182.out (by decide)) (fun _ hk => hk.2) (.int .i64 ((rd_T48 l0 x26_2).f0))) (fun _ hk => hk.2) (.int .i64 ((rd_T48 l0 x26_2).f1))) (fun _ hk => hk.2) (.int .i64 ((rd_T48 l0 x26_2).f2))) (fun _ hk => hk.2) (.int .i64 ((rd_T48 l0 x26_2).f3))) (fun _ hk => trivial))); (case aS => exact (below_size (by repeat (first | (with_reducible first | exact HB.out | apply below_alloc | apply pw_below_drewN | apply below_drew1 | refine below_set ?_ GE182.out) | exact HB.out)))); (case aL => have := LMc66.out; omega); intro v203 w70 ho hb hg hat; rw [← Ny202.out] at ho; have n0_ := Aside0.mk (blk_grown (g := gb182) (o := .cells #[.int .i64 ((rd_T48 l0 x26_2).f0), .int .i64 ((rd_T48 l0 x26_2).f1), .int .i64 ((rd_T48 l0 x26_2).f2), .int .i64 ((rd_T48 l0 x26_2).f3)] 48 (0, 0)) (by (with_reducible repeat (first | refine blk_drewN ?_ _ | refine blk_drew ?_ | refine blk_alloc ?_ _)); refine blk_put (cs := #[.int .i64 ((rd_T48 l0 x26_2).f0), .int .i64 ((rd_T48 l0 x26_2).f1), .int .i64 ((rd_T48 l0 x26_2).f2), .int .i64 0]) ?_ 3 _ rfl; (with_reducible repeat (first | refine blk_drewN ?_ _ | refine blk_drew ?_ | refine blk_alloc ?_ _)); refine blk_put (cs := #[.int .i64 ((rd_T48 l0 x26_2).f0), .int .i64 ((rd_T48 l0 x26_2).f1), .int .i64 0, .int .i64 0]) ?_ 2 _ rfl; (with_reducible repeat (first | refine blk_drewN ?_ _ | refine blk_drew ?_ | refine blk_alloc ?_ _)); refine blk_put (cs := #[.int .i64 ((rd_T48 l0 x26_2).f0), .int .i64 0, .int .i64 0, .int .i64 0]) ?_ 1 _ rfl; (with_reducible repeat (first | refine blk_drewN ?_ _ | refine blk_drew ?_ | refine blk_alloc ?_ _)); refine blk_put (cs := #[.int .i64 0, .int .i64 0, .int .i64 0, .int .i64 0]) ?_ 0 _ rfl; (with_reducible repeat (first | refine blk_drewN ?_ _ | refine blk_drew ?_ | refine blk_alloc ?_ _)); exact BK182.out) hg (Kd.R_ne HO_5.out BK182.out (by decide))); have n1_ := Aside0.mk (hb); have n2_ := Aside0.mk (ho); clear BK182; clear HB; clear HO_5; have BK182 := n0_; have HB := n1_; have HO204 := n2_; clear n0_ n1_ n2_; clear ho hb hg hat))
                                                    go_roundg k2
                                                    case measure => have := HJ2.out; have := HK2.out; omega
                                                    case rel => exact ⟨(y202), (wrap64 (x26_2 + 1)), (by first | rfl | (simp; done) | (simp [*]; done)), H', ⟨by have := HJ2.out; have := HK2.out; omega⟩, ⟨by (with_reducible repeat (first | apply Kd.R_alloc | apply Kd.R_drewN | apply Kd.R_drew)); exact HO204.out⟩, ⟨by repeat (first | (with_reducible first | exact HB.out | apply below_alloc | apply pw_below_drewN | apply below_drew1 | refine below_set ?_ GE182.out) | exact HB.out)⟩⟩
                                                  · rw [if_neg c66] at H
                                                    exact absurd H (by simp)
                                                · rw [if_neg c65] at H
                                                  have c65b0 : (((rd_T48 l0 x26_2).f2) == ((rd_T48 l0 x26_2).f3)) = false := beq_eq_false_iff_ne.mpr c65
                                                  have c65b1 : (((rd_T48 l0 x26_2).f2) != ((rd_T48 l0 x26_2).f3)) = true := bne_iff_ne.mpr c65
                                                  obtain rfl := Option.some.inj H
                                                  have p181 : 0 ≤ (x26_2 : Int) := of_decide_eq_true (by first | (with_reducible assumption) | assumption)
                                                  have q181 : x26_2 < (l0.length : Int) := of_decide_eq_true (by first | (with_reducible assumption) | assumption)
                                                  obtain ⟨ad181, e181, hx181_0, hx181_1, hx181_2, hx181_3⟩ := at_T48 HR0.out x26_2 p181 q181
                                                  cases e181
                                                  replace hx181_0 := (HB.out.cell (World.block_lt_of_cell? w _ hx181_0)).trans hx181_0
                                                  replace hx181_1 := (HB.out.cell (World.block_lt_of_cell? w _ hx181_1)).trans hx181_1
                                                  replace hx181_2 := (HB.out.cell (World.block_lt_of_cell? w _ hx181_2)).trans hx181_2
                                                  replace hx181_3 := (HB.out.cell (World.block_lt_of_cell? w _ hx181_3)).trans hx181_3
                                                  replace p181 := eq_true p181
                                                  replace q181 := eq_true q181
                                                  go_wp2_with (first | ((with_reducible refine gate_dst (N := 7) rfl ?_); (try (refine gate_guard (by rfl) ?_; dsimp only)); refine box_event ?hg (N := 7) ?hd (cs := #[.int .i64 0, .int .i64 0, .int .i64 0, .int .i64 0]) (t := 48) ?hr ?_; (case hd => rfl); (case hg => rfl); (case hr => first | (go_simp; done) | (go_simp; rfl)); intro gb182 hg w71 hbox hb; have n0_ := Aside0.mk (Kd.R_below (by (with_reducible repeat (first | apply Kd.R_alloc | apply Kd.R_drewN | apply Kd.R_drew)); exact HO_5.out) hb); have n1_ := Aside0.mk (below_step (by repeat (first | (with_reducible first | exact HB.out | apply below_alloc | apply pw_below_drewN | apply below_drew1) | exact HB.out)) hb); have n2_ := Aside0.mk (hbox); have n3_ := Aside0.mk ((by rw [hg]; exact (below_size (by repeat (first | (with_reducible first | exact HB.out | apply below_alloc | apply pw_below_drewN | apply below_drew1) | exact HB.out))) : w.heap.size ≤ gb182)); have n4_ := Aside0.mk ((by rw [hg]; exact (below_size (by repeat (first | (with_reducible first | exact HB.out | apply below_alloc | apply pw_below_drewN | apply below_drew1) | exact HB.out))) : w.heap.size ≤ gb182)); clear HO_5; clear HB; have HO_5 := n0_; have HB := n1_; have BK182 := n2_; have GW182 := n3_; have GE182 := n4_; clear n0_ n1_ n2_ n3_ n4_; clear hb hbox hg; have hcz72_0 : w71.cell? ⟨gb182, 0, none⟩ = some (.int .i64 0) := (blk_cell BK182.out 0).trans rfl; have hcz72_1 : w71.cell? ⟨gb182, 1, none⟩ = some (.int .i64 0) := (blk_cell BK182.out 1).trans rfl; have hcz72_2 : w71.cell? ⟨gb182, 2, none⟩ = some (.int .i64 0) := (blk_cell BK182.out 2).trans rfl; have hcz72_3 : w71.cell? ⟨gb182, 3, none⟩ = some (.int .i64 0) := (blk_cell BK182.out 3).trans rfl; have hfz72_0 := blk_frozen BK182.out 0; have hfz72_1 := blk_frozen BK182.out 1; have hfz72_2 := blk_frozen BK182.out 2; have hfz72_3 := blk_frozen BK182.out 3) | ((with_reducible refine gate_callee (f := 54) rfl ?_); refine goesL_ (some 34) rfl rfl Try.func54 (by kernel_rfl) rfl #[.int .i64 ((rd_T48 l0 x26_2).f0)] rfl (by (try simp only [List.map_toArray, List.map_cons, List.map_nil]); first | done | rfl | (simp only [List.length_drop, List.length_take]; rfl)) ?_; (with_reducible refine (impl_parts.calls k2 ((rd_T48 l0 x26_2).f0) t183 t184 t185 _ A15.out).mono ?_); rintro e w' ⟨rfl, ⟨nd, rfl⟩⟩; refine ⟨_, rfl, ?_⟩) | ((with_reducible refine gate_callee (f := 32) rfl ?_); refine goesL_ (some 40) rfl rfl Try.func32 (by kernel_rfl) rfl #[.int .i64 ((rd_T48 l0 x26_2).f0), .int .i64 0, .int .i64 9] rfl (by (try simp only [List.map_toArray, List.map_cons, List.map_nil]); first | done | rfl | (simp only [List.length_drop, List.length_take]; rfl)) ?_; (with_reducible refine (impl_in.calls ((rd_T48 l0 x26_2).f0) 0 9 true _ A16.out).mono ?_); rintro e w' ⟨rfl, ⟨nd, rfl⟩⟩; refine ⟨_, rfl, ?_⟩) | (go_at_call 32; (with_reducible refine (impl_in.calls ((rd_T48 l0 x26_2).f2) 0 (wrap64 (x26_2 - 1)) true _ A49.out).mono ?_); rintro e w' ⟨rfl, ⟨nd, rfl⟩⟩) | (go_at_call 32; (with_reducible refine (impl_in.calls ((rd_T48 l0 x26_2).f3) 0 (wrap64 (x26_2 - 1)) true _ A51.out).mono ?_); rintro e w' ⟨rfl, ⟨nd, rfl⟩⟩; obtain ⟨Ao73, co73, eo73⟩ := Kd.R_slice HO_5.out; subst eo73; have p197 : 0 ≤ (((rd_T48 l0 x26_2).f2) : Int) := of_decide_eq_true (by first | (with_reducible assumption) | assumption); have q197 : ((rd_T48 l0 x26_2).f2) < (x5_2.length : Int) := of_decide_eq_true (by first | (with_reducible assumption) | assumption); obtain ⟨ad197, e197, hx197_0⟩ := Kd.at_int (Kd.R_reads' HO_5.out).2.2 ((rd_T48 l0 x26_2).f2) p197 q197; cases e197; have hn197_0 : ad197.block ≠ gb182 := Kd.own_blk (Kd.R_ne HO_5.out BK182.out (by decide)); have hn197_1 : ad197.block ≠ gb182 := Kd.own_blk (Kd.R_ne HO_5.out BK182.out (by decide)); have hn197_2 : ad197.block ≠ gb182 := Kd.own_blk (Kd.R_ne HO_5.out BK182.out (by decide)); have hn197_3 : ad197.block ≠ gb182 := Kd.own_blk (Kd.R_ne HO_5.out BK182.out (by decide)); replace hx197_0 := (cell_far (p := ⟨gb182, 0, none⟩) (by first | (rw [add_block]; exact hn197_0) | (show (Addr.add _ _).block ≠ _; rw [add_block]; exact hn197_0) | exact hn197_0) (.int .i64 ((rd_T48 l0 x26_2).f0))).trans hx197_0; replace hx197_0 := (cell_far (p := ⟨gb182, 1, none⟩) (by first | (rw [add_block]; exact hn197_1) | (show (Addr.add _ _).block ≠ _; rw [add_block]; exact hn197_1) | exact hn197_1) (.int .i64 ((rd_T48 l0 x26_2).f1))).trans hx197_0; replace hx197_0 := (cell_far (p := ⟨gb182, 2, none⟩) (by first | (rw [add_block]; exact hn197_2) | (show (Addr.add _ _).block ≠ _; rw [add_block]; exact hn197_2) | exact hn197_2) (.int .i64 ((rd_T48 l0 x26_2).f2))).trans hx197_0; replace hx197_0 := (cell_far (p := ⟨gb182, 3, none⟩) (by first | (rw [add_block]; exact hn197_3) | (show (Addr.add _ _).block ≠ _; rw [add_block]; exact hn197_3) | exact hn197_3) (.int .i64 ((rd_T48 l0 x26_2).f3))).trans hx197_0; clear hn197_0; clear hn197_1; clear hn197_2; clear hn197_3; replace p197 := eq_true p197; replace q197 := eq_true q197; have p198 : 0 ≤ (((rd_T48 l0 x26_2).f3) : Int) := of_decide_eq_true (by first | (with_reducible assumption) | assumption); have q198 : ((rd_T48 l0 x26_2).f3) < (x5_2.length : Int) := of_decide_eq_true (by first | (with_reducible assumption) | assumption); obtain ⟨ad198, e198, hx198_0⟩ := Kd.at_int (Kd.R_reads' HO_5.out).2.2 ((rd_T48 l0 x26_2).f3) p198 q198; obtain rfl : ad197 = ad198 := (by injection e198); have hn198_0 : ad197.block ≠ gb182 := Kd.own_blk (Kd.R_ne HO_5.out BK182.out (by decide)); have hn198_1 : ad197.block ≠ gb182 := Kd.own_blk (Kd.R_ne HO_5.out BK182.out (by decide)); have hn198_2 : ad197.block ≠ gb182 := Kd.own_blk (Kd.R_ne HO_5.out BK182.out (by decide)); have hn198_3 : ad197.block ≠ gb182 := Kd.own_blk (Kd.R_ne HO_5.out BK182.out (by decide)); replace hx198_0 := (cell_far (p := ⟨gb182, 0, none⟩) (by first | (rw [add_block]; exact hn198_0) | (show (Addr.add _ _).block ≠ _; rw [add_block]; exact hn198_0) | exact hn198_0) (.int .i64 ((rd_T48 l0 x26_2).f0))).trans hx198_0; replace hx198_0 := (cell_far (p := ⟨gb182, 1, none⟩) (by first | (rw [add_block]; exact hn198_1) | (show (Addr.add _ _).block ≠ _; rw [add_block]; exact hn198_1) | exact hn198_1) (.int .i64 ((rd_T48 l0 x26_2).f1))).trans hx198_0; replace hx198_0 := (cell_far (p := ⟨gb182, 2, none⟩) (by first | (rw [add_block]; exact hn198_2) | (show (Addr.add _ _).block ≠ _; rw [add_block]; exact hn198_2) | exact hn198_2) (.int .i64 ((rd_T48 l0 x26_2).f2))).trans hx198_0; replace hx198_0 := (cell_far (p := ⟨gb182, 3, none⟩) (by first | (rw [add_block]; exact hn198_3) | (show (Addr.add _ _).block ≠ _; rw [add_block]; exact hn198_3) | exact hn198_3) (.int .i64 ((rd_T48 l0 x26_2).f3))).trans hx198_0; clear hn198_0; clear hn198_1; clear hn198_2; clear hn198_3; replace p198 := eq_true p198; replace q198 := eq_true q198))
                                                  go_ret
                                                  exact ⟨_, by first | rfl | (simp [errW_none, errW_some] <;> rfl) | (simp [*, errW_none, errW_some] <;> rfl), by first | exact Kd.R_nil _ _ _ _ _ | exact Kd.N_nil _ _ _ _ _ | exact Kd.V_nil _ _ _ _ _ | exact Kd.Q_nil _ _ _ _ _ | exact Kd.S_nil _ _ _ _ _, (by first | rfl | (intro _; rfl) | (intro h_; subst h_; exact absurd (show decide (0 < ((([] : List Int).length : Nat) : Int)) = true from by assumption) (by decide))), by repeat (first | (with_reducible first | exact HB.out | apply below_alloc | apply pw_below_drewN | apply below_drew1 | refine below_set ?_ GE182.out) | exact HB.out)⟩
                                            · rw [if_neg c58] at H
                                              have c58b0 : ((rd x5_2 ((rd_T48 l0 x26_2).f3)) == t184) = false := beq_eq_false_iff_ne.mpr c58
                                              have c58b1 : ((rd x5_2 ((rd_T48 l0 x26_2).f3)) != t184) = true := bne_iff_ne.mpr c58
                                              obtain rfl := Option.some.inj H
                                              have p181 : 0 ≤ (x26_2 : Int) := of_decide_eq_true (by first | (with_reducible assumption) | assumption)
                                              have q181 : x26_2 < (l0.length : Int) := of_decide_eq_true (by first | (with_reducible assumption) | assumption)
                                              obtain ⟨ad181, e181, hx181_0, hx181_1, hx181_2, hx181_3⟩ := at_T48 HR0.out x26_2 p181 q181
                                              cases e181
                                              replace hx181_0 := (HB.out.cell (World.block_lt_of_cell? w _ hx181_0)).trans hx181_0
                                              replace hx181_1 := (HB.out.cell (World.block_lt_of_cell? w _ hx181_1)).trans hx181_1
                                              replace hx181_2 := (HB.out.cell (World.block_lt_of_cell? w _ hx181_2)).trans hx181_2
                                              replace hx181_3 := (HB.out.cell (World.block_lt_of_cell? w _ hx181_3)).trans hx181_3
                                              replace p181 := eq_true p181
                                              replace q181 := eq_true q181
                                              go_wp2_with (first | ((with_reducible refine gate_dst (N := 7) rfl ?_); (try (refine gate_guard (by rfl) ?_; dsimp only)); refine box_event ?hg (N := 7) ?hd (cs := #[.int .i64 0, .int .i64 0, .int .i64 0, .int .i64 0]) (t := 48) ?hr ?_; (case hd => rfl); (case hg => rfl); (case hr => first | (go_simp; done) | (go_simp; rfl)); intro gb182 hg w74 hbox hb; have n0_ := Aside0.mk (Kd.R_below (by (with_reducible repeat (first | apply Kd.R_alloc | apply Kd.R_drewN | apply Kd.R_drew)); exact HO_5.out) hb); have n1_ := Aside0.mk (below_step (by repeat (first | (with_reducible first | exact HB.out | apply below_alloc | apply pw_below_drewN | apply below_drew1) | exact HB.out)) hb); have n2_ := Aside0.mk (hbox); have n3_ := Aside0.mk ((by rw [hg]; exact (below_size (by repeat (first | (with_reducible first | exact HB.out | apply below_alloc | apply pw_below_drewN | apply below_drew1) | exact HB.out))) : w.heap.size ≤ gb182)); have n4_ := Aside0.mk ((by rw [hg]; exact (below_size (by repeat (first | (with_reducible first | exact HB.out | apply below_alloc | apply pw_below_drewN | apply below_drew1) | exact HB.out))) : w.heap.size ≤ gb182)); clear HO_5; clear HB; have HO_5 := n0_; have HB := n1_; have BK182 := n2_; have GW182 := n3_; have GE182 := n4_; clear n0_ n1_ n2_ n3_ n4_; clear hb hbox hg; have hcz75_0 : w74.cell? ⟨gb182, 0, none⟩ = some (.int .i64 0) := (blk_cell BK182.out 0).trans rfl; have hcz75_1 : w74.cell? ⟨gb182, 1, none⟩ = some (.int .i64 0) := (blk_cell BK182.out 1).trans rfl; have hcz75_2 : w74.cell? ⟨gb182, 2, none⟩ = some (.int .i64 0) := (blk_cell BK182.out 2).trans rfl; have hcz75_3 : w74.cell? ⟨gb182, 3, none⟩ = some (.int .i64 0) := (blk_cell BK182.out 3).trans rfl; have hfz75_0 := blk_frozen BK182.out 0; have hfz75_1 := blk_frozen BK182.out 1; have hfz75_2 := blk_frozen BK182.out 2; have hfz75_3 := blk_frozen BK182.out 3) | ((with_reducible refine gate_callee (f := 54) rfl ?_); refine goesL_ (some 34) rfl rfl Try.func54 (by kernel_rfl) rfl #[.int .i64 ((rd_T48 l0 x26_2).f0)] rfl (by (try simp only [List.map_toArray, List.map_cons, List.map_nil]); first | done | rfl | (simp only [List.length_drop, List.length_take]; rfl)) ?_; (with_reducible refine (impl_parts.calls k2 ((rd_T48 l0 x26_2).f0) t183 t184 t185 _ A15.out).mono ?_); rintro e w' ⟨rfl, ⟨nd, rfl⟩⟩; refine ⟨_, rfl, ?_⟩) | ((with_reducible refine gate_callee (f := 32) rfl ?_); refine goesL_ (some 40) rfl rfl Try.func32 (by kernel_rfl) rfl #[.int .i64 ((rd_T48 l0 x26_2).f0), .int .i64 0, .int .i64 9] rfl (by (try simp only [List.map_toArray, List.map_cons, List.map_nil]); first | done | rfl | (simp only [List.length_drop, List.length_take]; rfl)) ?_; (with_reducible refine (impl_in.calls ((rd_T48 l0 x26_2).f0) 0 9 true _ A16.out).mono ?_); rintro e w' ⟨rfl, ⟨nd, rfl⟩⟩; refine ⟨_, rfl, ?_⟩) | (go_at_call 32; (with_reducible refine (impl_in.calls ((rd_T48 l0 x26_2).f2) 0 (wrap64 (x26_2 - 1)) true _ A49.out).mono ?_); rintro e w' ⟨rfl, ⟨nd, rfl⟩⟩) | (go_at_call 32; (with_reducible refine (impl_in.calls ((rd_T48 l0 x26_2).f3) 0 (wrap64 (x26_2 - 1)) true _ A51.out).mono ?_); rintro e w' ⟨rfl, ⟨nd, rfl⟩⟩; obtain ⟨Ao76, co76, eo76⟩ := Kd.R_slice HO_5.out; subst eo76; have p197 : 0 ≤ (((rd_T48 l0 x26_2).f2) : Int) := of_decide_eq_true (by first | (with_reducible assumption) | assumption); have q197 : ((rd_T48 l0 x26_2).f2) < (x5_2.length : Int) := of_decide_eq_true (by first | (with_reducible assumption) | assumption); obtain ⟨ad197, e197, hx197_0⟩ := Kd.at_int (Kd.R_reads' HO_5.out).2.2 ((rd_T48 l0 x26_2).f2) p197 q197; cases e197; have hn197_0 : ad197.block ≠ gb182 := Kd.own_blk (Kd.R_ne HO_5.out BK182.out (by decide)); have hn197_1 : ad197.block ≠ gb182 := Kd.own_blk (Kd.R_ne HO_5.out BK182.out (by decide)); have hn197_2 : ad197.block ≠ gb182 := Kd.own_blk (Kd.R_ne HO_5.out BK182.out (by decide)); have hn197_3 : ad197.block ≠ gb182 := Kd.own_blk (Kd.R_ne HO_5.out BK182.out (by decide)); replace hx197_0 := (cell_far (p := ⟨gb182, 0, none⟩) (by first | (rw [add_block]; exact hn197_0) | (show (Addr.add _ _).block ≠ _; rw [add_block]; exact hn197_0) | exact hn197_0) (.int .i64 ((rd_T48 l0 x26_2).f0))).trans hx197_0; replace hx197_0 := (cell_far (p := ⟨gb182, 1, none⟩) (by first | (rw [add_block]; exact hn197_1) | (show (Addr.add _ _).block ≠ _; rw [add_block]; exact hn197_1) | exact hn197_1) (.int .i64 ((rd_T48 l0 x26_2).f1))).trans hx197_0; replace hx197_0 := (cell_far (p := ⟨gb182, 2, none⟩) (by first | (rw [add_block]; exact hn197_2) | (show (Addr.add _ _).block ≠ _; rw [add_block]; exact hn197_2) | exact hn197_2) (.int .i64 ((rd_T48 l0 x26_2).f2))).trans hx197_0; replace hx197_0 := (cell_far (p := ⟨gb182, 3, none⟩) (by first | (rw [add_block]; exact hn197_3) | (show (Addr.add _ _).block ≠ _; rw [add_block]; exact hn197_3) | exact hn197_3) (.int .i64 ((rd_T48 l0 x26_2).f3))).trans hx197_0; clear hn197_0; clear hn197_1; clear hn197_2; clear hn197_3; replace p197 := eq_true p197; replace q197 := eq_true q197; have p198 : 0 ≤ (((rd_T48 l0 x26_2).f3) : Int) := of_decide_eq_true (by first | (with_reducible assumption) | assumption); have q198 : ((rd_T48 l0 x26_2).f3) < (x5_2.length : Int) := of_decide_eq_true (by first | (with_reducible assumption) | assumption); obtain ⟨ad198, e198, hx198_0⟩ := Kd.at_int (Kd.R_reads' HO_5.out).2.2 ((rd_T48 l0 x26_2).f3) p198 q198; obtain rfl : ad197 = ad198 := (by injection e198); have hn198_0 : ad197.block ≠ gb182 := Kd.own_blk (Kd.R_ne HO_5.out BK182.out (by decide)); have hn198_1 : ad197.block ≠ gb182 := Kd.own_blk (Kd.R_ne HO_5.out BK182.out (by decide)); have hn198_2 : ad197.block ≠ gb182 := Kd.own_blk (Kd.R_ne HO_5.out BK182.out (by decide)); have hn198_3 : ad197.block ≠ gb182 := Kd.own_blk (Kd.R_ne HO_5.out BK182.out (by decide)); replace hx198_0 := (cell_far (p := ⟨gb182, 0, none⟩) (by first | (rw [add_block]; exact hn198_0) | (show (Addr.add _ _).block ≠ _; rw [add_block]; exact hn198_0) | exact hn198_0) (.int .i64 ((rd_T48 l0 x26_2).f0))).trans hx198_0; replace hx198_0 := (cell_far (p := ⟨gb182, 1, none⟩) (by first | (rw [add_block]; exact hn198_1) | (show (Addr.add _ _).block ≠ _; rw [add_block]; exact hn198_1) | exact hn198_1) (.int .i64 ((rd_T48 l0 x26_2).f1))).trans hx198_0; replace hx198_0 := (cell_far (p := ⟨gb182, 2, none⟩) (by first | (rw [add_block]; exact hn198_2) | (show (Addr.add _ _).block ≠ _; rw [add_block]; exact hn198_2) | exact hn198_2) (.int .i64 ((rd_T48 l0 x26_2).f2))).trans hx198_0; replace hx198_0 := (cell_far (p := ⟨gb182, 3, none⟩) (by first | (rw [add_block]; exact hn198_3) | (show (Addr.add _ _).block ≠ _; rw [add_block]; exact hn198_3) | exact hn198_3) (.int .i64 ((rd_T48 l0 x26_2).f3))).trans hx198_0; clear hn198_0; clear hn198_1; clear hn198_2; clear hn198_3; replace p198 := eq_true p198; replace q198 := eq_true q198))
                                              go_ret
                                              exact ⟨_, by first | rfl | (simp [errW_none, errW_some] <;> rfl) | (simp [*, errW_none, errW_some] <;> rfl), by first | exact Kd.R_nil _ _ _ _ _ | exact Kd.N_nil _ _ _ _ _ | exact Kd.V_nil _ _ _ _ _ | exact Kd.Q_nil _ _ _ _ _ | exact Kd.S_nil _ _ _ _ _, (by first | rfl | (intro _; rfl) | (intro h_; subst h_; exact absurd (show decide (0 < ((([] : List Int).length : Nat) : Int)) = true from by assumption) (by decide))), by repeat (first | (with_reducible first | exact HB.out | apply below_alloc | apply pw_below_drewN | apply below_drew1 | refine below_set ?_ GE182.out) | exact HB.out)⟩
                                          · rw [if_neg c57] at H
                                            exact absurd H (by simp)
                                        · rw [if_neg c56] at H
                                          exact absurd H (by simp)
                                      · rw [if_neg c55] at H
                                        have c55b0 : ((rd x5_2 ((rd_T48 l0 x26_2).f2)) == t184) = false := beq_eq_false_iff_ne.mpr c55
                                        have c55b1 : ((rd x5_2 ((rd_T48 l0 x26_2).f2)) != t184) = true := bne_iff_ne.mpr c55
                                        obtain rfl := Option.some.inj H
                                        have p181 : 0 ≤ (x26_2 : Int) := of_decide_eq_true (by first | (with_reducible assumption) | assumption)
                                        have q181 : x26_2 < (l0.length : Int) := of_decide_eq_true (by first | (with_reducible assumption) | assumption)
                                        obtain ⟨ad181, e181, hx181_0, hx181_1, hx181_2, hx181_3⟩ := at_T48 HR0.out x26_2 p181 q181
                                        cases e181
                                        replace hx181_0 := (HB.out.cell (World.block_lt_of_cell? w _ hx181_0)).trans hx181_0
                                        replace hx181_1 := (HB.out.cell (World.block_lt_of_cell? w _ hx181_1)).trans hx181_1
                                        replace hx181_2 := (HB.out.cell (World.block_lt_of_cell? w _ hx181_2)).trans hx181_2
                                        replace hx181_3 := (HB.out.cell (World.block_lt_of_cell? w _ hx181_3)).trans hx181_3
                                        replace p181 := eq_true p181
                                        replace q181 := eq_true q181
                                        go_wp2_with (first | ((with_reducible refine gate_dst (N := 7) rfl ?_); (try (refine gate_guard (by rfl) ?_; dsimp only)); refine box_event ?hg (N := 7) ?hd (cs := #[.int .i64 0, .int .i64 0, .int .i64 0, .int .i64 0]) (t := 48) ?hr ?_; (case hd => rfl); (case hg => rfl); (case hr => first | (go_simp; done) | (go_simp; rfl)); intro gb182 hg w77 hbox hb; have n0_ := Aside0.mk (Kd.R_below (by (with_reducible repeat (first | apply Kd.R_alloc | apply Kd.R_drewN | apply Kd.R_drew)); exact HO_5.out) hb); have n1_ := Aside0.mk (below_step (by repeat (first | (with_reducible first | exact HB.out | apply below_alloc | apply pw_below_drewN | apply below_drew1) | exact HB.out)) hb); have n2_ := Aside0.mk (hbox); have n3_ := Aside0.mk ((by rw [hg]; exact (below_size (by repeat (first | (with_reducible first | exact HB.out | apply below_alloc | apply pw_below_drewN | apply below_drew1) | exact HB.out))) : w.heap.size ≤ gb182)); have n4_ := Aside0.mk ((by rw [hg]; exact (below_size (by repeat (first | (with_reducible first | exact HB.out | apply below_alloc | apply pw_below_drewN | apply below_drew1) | exact HB.out))) : w.heap.size ≤ gb182)); clear HO_5; clear HB; have HO_5 := n0_; have HB := n1_; have BK182 := n2_; have GW182 := n3_; have GE182 := n4_; clear n0_ n1_ n2_ n3_ n4_; clear hb hbox hg; have hcz78_0 : w77.cell? ⟨gb182, 0, none⟩ = some (.int .i64 0) := (blk_cell BK182.out 0).trans rfl; have hcz78_1 : w77.cell? ⟨gb182, 1, none⟩ = some (.int .i64 0) := (blk_cell BK182.out 1).trans rfl; have hcz78_2 : w77.cell? ⟨gb182, 2, none⟩ = some (.int .i64 0) := (blk_cell BK182.out 2).trans rfl; have hcz78_3 : w77.cell? ⟨gb182, 3, none⟩ = some (.int .i64 0) := (blk_cell BK182.out 3).trans rfl; have hfz78_0 := blk_frozen BK182.out 0; have hfz78_1 := blk_frozen BK182.out 1; have hfz78_2 := blk_frozen BK182.out 2; have hfz78_3 := blk_frozen BK182.out 3) | ((with_reducible refine gate_callee (f := 54) rfl ?_); refine goesL_ (some 34) rfl rfl Try.func54 (by kernel_rfl) rfl #[.int .i64 ((rd_T48 l0 x26_2).f0)] rfl (by (try simp only [List.map_toArray, List.map_cons, List.map_nil]); first | done | rfl | (simp only [List.length_drop, List.length_take]; rfl)) ?_; (with_reducible refine (impl_parts.calls k2 ((rd_T48 l0 x26_2).f0) t183 t184 t185 _ A15.out).mono ?_); rintro e w' ⟨rfl, ⟨nd, rfl⟩⟩; refine ⟨_, rfl, ?_⟩) | ((with_reducible refine gate_callee (f := 32) rfl ?_); refine goesL_ (some 40) rfl rfl Try.func32 (by kernel_rfl) rfl #[.int .i64 ((rd_T48 l0 x26_2).f0), .int .i64 0, .int .i64 9] rfl (by (try simp only [List.map_toArray, List.map_cons, List.map_nil]); first | done | rfl | (simp only [List.length_drop, List.length_take]; rfl)) ?_; (with_reducible refine (impl_in.calls ((rd_T48 l0 x26_2).f0) 0 9 true _ A16.out).mono ?_); rintro e w' ⟨rfl, ⟨nd, rfl⟩⟩; refine ⟨_, rfl, ?_⟩) | (go_at_call 32; (with_reducible refine (impl_in.calls ((rd_T48 l0 x26_2).f2) 0 (wrap64 (x26_2 - 1)) true _ A49.out).mono ?_); rintro e w' ⟨rfl, ⟨nd, rfl⟩⟩) | (go_at_call 32; (with_reducible refine (impl_in.calls ((rd_T48 l0 x26_2).f3) 0 (wrap64 (x26_2 - 1)) true _ A51.out).mono ?_); rintro e w' ⟨rfl, ⟨nd, rfl⟩⟩; obtain ⟨Ao79, co79, eo79⟩ := Kd.R_slice HO_5.out; subst eo79; have p197 : 0 ≤ (((rd_T48 l0 x26_2).f2) : Int) := of_decide_eq_true (by first | (with_reducible assumption) | assumption); have q197 : ((rd_T48 l0 x26_2).f2) < (x5_2.length : Int) := of_decide_eq_true (by first | (with_reducible assumption) | assumption); obtain ⟨ad197, e197, hx197_0⟩ := Kd.at_int (Kd.R_reads' HO_5.out).2.2 ((rd_T48 l0 x26_2).f2) p197 q197; cases e197; have hn197_0 : ad197.block ≠ gb182 := Kd.own_blk (Kd.R_ne HO_5.out BK182.out (by decide)); have hn197_1 : ad197.block ≠ gb182 := Kd.own_blk (Kd.R_ne HO_5.out BK182.out (by decide)); have hn197_2 : ad197.block ≠ gb182 := Kd.own_blk (Kd.R_ne HO_5.out BK182.out (by decide)); have hn197_3 : ad197.block ≠ gb182 := Kd.own_blk (Kd.R_ne HO_5.out BK182.out (by decide)); replace hx197_0 := (cell_far (p := ⟨gb182, 0, none⟩) (by first | (rw [add_block]; exact hn197_0) | (show (Addr.add _ _).block ≠ _; rw [add_block]; exact hn197_0) | exact hn197_0) (.int .i64 ((rd_T48 l0 x26_2).f0))).trans hx197_0; replace hx197_0 := (cell_far (p := ⟨gb182, 1, none⟩) (by first | (rw [add_block]; exact hn197_1) | (show (Addr.add _ _).block ≠ _; rw [add_block]; exact hn197_1) | exact hn197_1) (.int .i64 ((rd_T48 l0 x26_2).f1))).trans hx197_0; replace hx197_0 := (cell_far (p := ⟨gb182, 2, none⟩) (by first | (rw [add_block]; exact hn197_2) | (show (Addr.add _ _).block ≠ _; rw [add_block]; exact hn197_2) | exact hn197_2) (.int .i64 ((rd_T48 l0 x26_2).f2))).trans hx197_0; replace hx197_0 := (cell_far (p := ⟨gb182, 3, none⟩) (by first | (rw [add_block]; exact hn197_3) | (show (Addr.add _ _).block ≠ _; rw [add_block]; exact hn197_3) | exact hn197_3) (.int .i64 ((rd_T48 l0 x26_2).f3))).trans hx197_0; clear hn197_0; clear hn197_1; clear hn197_2; clear hn197_3; replace p197 := eq_true p197; replace q197 := eq_true q197))
                                        go_ret
                                        exact ⟨_, by first | rfl | (simp [errW_none, errW_some] <;> rfl) | (simp [*, errW_none, errW_some] <;> rfl), by first | exact Kd.R_nil _ _ _ _ _ | exact Kd.N_nil _ _ _ _ _ | exact Kd.V_nil _ _ _ _ _ | exact Kd.Q_nil _ _ _ _ _ | exact Kd.S_nil _ _ _ _ _, (by first | rfl | (intro _; rfl) | (intro h_; subst h_; exact absurd (show decide (0 < ((([] : List Int).length : Nat) : Int)) = true from by assumption) (by decide))), by repeat (first | (with_reducible first | exact HB.out | apply below_alloc | apply pw_below_drewN | apply below_drew1 | refine below_set ?_ GE182.out) | exact HB.out)⟩
                                    · rw [if_neg c54] at H
                                      exact absurd H (by simp)
                                  · rw [if_neg c53] at H
                                    exact absurd H (by simp)
                                · replace c52 := Bool.eq_false_iff.mpr c52
                                  subst c52
                                  have H1 : (some ([] : List Int)) = some r := by rw [if_neg (show ¬ (false = true) by decide)] at H; exact H
                                  clear H
                                  have H := H1
                                  clear H1
                                  obtain rfl := Option.some.inj H
                                  have p181 : 0 ≤ (x26_2 : Int) := of_decide_eq_true (by first | (with_reducible assumption) | assumption)
                                  have q181 : x26_2 < (l0.length : Int) := of_decide_eq_true (by first | (with_reducible assumption) | assumption)
                                  obtain ⟨ad181, e181, hx181_0, hx181_1, hx181_2, hx181_3⟩ := at_T48 HR0.out x26_2 p181 q181
                                  cases e181
                                  replace hx181_0 := (HB.out.cell (World.block_lt_of_cell? w _ hx181_0)).trans hx181_0
                                  replace hx181_1 := (HB.out.cell (World.block_lt_of_cell? w _ hx181_1)).trans hx181_1
                                  replace hx181_2 := (HB.out.cell (World.block_lt_of_cell? w _ hx181_2)).trans hx181_2
                                  replace hx181_3 := (HB.out.cell (World.block_lt_of_cell? w _ hx181_3)).trans hx181_3
                                  replace p181 := eq_true p181
                                  replace q181 := eq_true q181
                                  go_wp2_with (first | ((with_reducible refine gate_dst (N := 7) rfl ?_); (try (refine gate_guard (by rfl) ?_; dsimp only)); refine box_event ?hg (N := 7) ?hd (cs := #[.int .i64 0, .int .i64 0, .int .i64 0, .int .i64 0]) (t := 48) ?hr ?_; (case hd => rfl); (case hg => rfl); (case hr => first | (go_simp; done) | (go_simp; rfl)); intro gb182 hg w80 hbox hb; have n0_ := Aside0.mk (Kd.R_below (by (with_reducible repeat (first | apply Kd.R_alloc | apply Kd.R_drewN | apply Kd.R_drew)); exact HO_5.out) hb); have n1_ := Aside0.mk (below_step (by repeat (first | (with_reducible first | exact HB.out | apply below_alloc | apply pw_below_drewN | apply below_drew1) | exact HB.out)) hb); have n2_ := Aside0.mk (hbox); have n3_ := Aside0.mk ((by rw [hg]; exact (below_size (by repeat (first | (with_reducible first | exact HB.out | apply below_alloc | apply pw_below_drewN | apply below_drew1) | exact HB.out))) : w.heap.size ≤ gb182)); have n4_ := Aside0.mk ((by rw [hg]; exact (below_size (by repeat (first | (with_reducible first | exact HB.out | apply below_alloc | apply pw_below_drewN | apply below_drew1) | exact HB.out))) : w.heap.size ≤ gb182)); clear HO_5; clear HB; have HO_5 := n0_; have HB := n1_; have BK182 := n2_; have GW182 := n3_; have GE182 := n4_; clear n0_ n1_ n2_ n3_ n4_; clear hb hbox hg; have hcz81_0 : w80.cell? ⟨gb182, 0, none⟩ = some (.int .i64 0) := (blk_cell BK182.out 0).trans rfl; have hcz81_1 : w80.cell? ⟨gb182, 1, none⟩ = some (.int .i64 0) := (blk_cell BK182.out 1).trans rfl; have hcz81_2 : w80.cell? ⟨gb182, 2, none⟩ = some (.int .i64 0) := (blk_cell BK182.out 2).trans rfl; have hcz81_3 : w80.cell? ⟨gb182, 3, none⟩ = some (.int .i64 0) := (blk_cell BK182.out 3).trans rfl; have hfz81_0 := blk_frozen BK182.out 0; have hfz81_1 := blk_frozen BK182.out 1; have hfz81_2 := blk_frozen BK182.out 2; have hfz81_3 := blk_frozen BK182.out 3) | ((with_reducible refine gate_callee (f := 54) rfl ?_); refine goesL_ (some 34) rfl rfl Try.func54 (by kernel_rfl) rfl #[.int .i64 ((rd_T48 l0 x26_2).f0)] rfl (by (try simp only [List.map_toArray, List.map_cons, List.map_nil]); first | done | rfl | (simp only [List.length_drop, List.length_take]; rfl)) ?_; (with_reducible refine (impl_parts.calls k2 ((rd_T48 l0 x26_2).f0) t183 t184 t185 _ A15.out).mono ?_); rintro e w' ⟨rfl, ⟨nd, rfl⟩⟩; refine ⟨_, rfl, ?_⟩) | ((with_reducible refine gate_callee (f := 32) rfl ?_); refine goesL_ (some 40) rfl rfl Try.func32 (by kernel_rfl) rfl #[.int .i64 ((rd_T48 l0 x26_2).f0), .int .i64 0, .int .i64 9] rfl (by (try simp only [List.map_toArray, List.map_cons, List.map_nil]); first | done | rfl | (simp only [List.length_drop, List.length_take]; rfl)) ?_; (with_reducible refine (impl_in.calls ((rd_T48 l0 x26_2).f0) 0 9 true _ A16.out).mono ?_); rintro e w' ⟨rfl, ⟨nd, rfl⟩⟩; refine ⟨_, rfl, ?_⟩) | (go_at_call 32; (with_reducible refine (impl_in.calls ((rd_T48 l0 x26_2).f2) 0 (wrap64 (x26_2 - 1)) true _ A49.out).mono ?_); rintro e w' ⟨rfl, ⟨nd, rfl⟩⟩) | (go_at_call 32; (with_reducible refine (impl_in.calls ((rd_T48 l0 x26_2).f3) 0 (wrap64 (x26_2 - 1)) false _ A51.out).mono ?_); rintro e w' ⟨rfl, ⟨nd, rfl⟩⟩))
                                  go_ret
                                  exact ⟨_, by first | rfl | (simp [errW_none, errW_some] <;> rfl) | (simp [*, errW_none, errW_some] <;> rfl), by first | exact Kd.R_nil _ _ _ _ _ | exact Kd.N_nil _ _ _ _ _ | exact Kd.V_nil _ _ _ _ _ | exact Kd.Q_nil _ _ _ _ _ | exact Kd.S_nil _ _ _ _ _, (by first | rfl | (intro _; rfl) | (intro h_; subst h_; exact absurd (show decide (0 < ((([] : List Int).length : Nat) : Int)) = true from by assumption) (by decide))), by repeat (first | (with_reducible first | exact HB.out | apply below_alloc | apply pw_below_drewN | apply below_drew1 | refine below_set ?_ GE182.out) | exact HB.out)⟩
                              · replace c50 := Bool.eq_false_iff.mpr c50
                                subst c50
                                have H1 : (some ([] : List Int)) = some r := by rw [if_neg (show ¬ (false = true) by decide)] at H; exact H
                                clear H
                                have H := H1
                                clear H1
                                obtain rfl := Option.some.inj H
                                have p181 : 0 ≤ (x26_2 : Int) := of_decide_eq_true (by first | (with_reducible assumption) | assumption)
                                have q181 : x26_2 < (l0.length : Int) := of_decide_eq_true (by first | (with_reducible assumption) | assumption)
                                obtain ⟨ad181, e181, hx181_0, hx181_1, hx181_2, hx181_3⟩ := at_T48 HR0.out x26_2 p181 q181
                                cases e181
                                replace hx181_0 := (HB.out.cell (World.block_lt_of_cell? w _ hx181_0)).trans hx181_0
                                replace hx181_1 := (HB.out.cell (World.block_lt_of_cell? w _ hx181_1)).trans hx181_1
                                replace hx181_2 := (HB.out.cell (World.block_lt_of_cell? w _ hx181_2)).trans hx181_2
                                replace hx181_3 := (HB.out.cell (World.block_lt_of_cell? w _ hx181_3)).trans hx181_3
                                replace p181 := eq_true p181
                                replace q181 := eq_true q181
                                go_wp2_with (first | ((with_reducible refine gate_dst (N := 7) rfl ?_); (try (refine gate_guard (by rfl) ?_; dsimp only)); refine box_event ?hg (N := 7) ?hd (cs := #[.int .i64 0, .int .i64 0, .int .i64 0, .int .i64 0]) (t := 48) ?hr ?_; (case hd => rfl); (case hg => rfl); (case hr => first | (go_simp; done) | (go_simp; rfl)); intro gb182 hg w82 hbox hb; have n0_ := Aside0.mk (Kd.R_below (by (with_reducible repeat (first | apply Kd.R_alloc | apply Kd.R_drewN | apply Kd.R_drew)); exact HO_5.out) hb); have n1_ := Aside0.mk (below_step (by repeat (first | (with_reducible first | exact HB.out | apply below_alloc | apply pw_below_drewN | apply below_drew1) | exact HB.out)) hb); have n2_ := Aside0.mk (hbox); have n3_ := Aside0.mk ((by rw [hg]; exact (below_size (by repeat (first | (with_reducible first | exact HB.out | apply below_alloc | apply pw_below_drewN | apply below_drew1) | exact HB.out))) : w.heap.size ≤ gb182)); have n4_ := Aside0.mk ((by rw [hg]; exact (below_size (by repeat (first | (with_reducible first | exact HB.out | apply below_alloc | apply pw_below_drewN | apply below_drew1) | exact HB.out))) : w.heap.size ≤ gb182)); clear HO_5; clear HB; have HO_5 := n0_; have HB := n1_; have BK182 := n2_; have GW182 := n3_; have GE182 := n4_; clear n0_ n1_ n2_ n3_ n4_; clear hb hbox hg; have hcz83_0 : w82.cell? ⟨gb182, 0, none⟩ = some (.int .i64 0) := (blk_cell BK182.out 0).trans rfl; have hcz83_1 : w82.cell? ⟨gb182, 1, none⟩ = some (.int .i64 0) := (blk_cell BK182.out 1).trans rfl; have hcz83_2 : w82.cell? ⟨gb182, 2, none⟩ = some (.int .i64 0) := (blk_cell BK182.out 2).trans rfl; have hcz83_3 : w82.cell? ⟨gb182, 3, none⟩ = some (.int .i64 0) := (blk_cell BK182.out 3).trans rfl; have hfz83_0 := blk_frozen BK182.out 0; have hfz83_1 := blk_frozen BK182.out 1; have hfz83_2 := blk_frozen BK182.out 2; have hfz83_3 := blk_frozen BK182.out 3) | ((with_reducible refine gate_callee (f := 54) rfl ?_); refine goesL_ (some 34) rfl rfl Try.func54 (by kernel_rfl) rfl #[.int .i64 ((rd_T48 l0 x26_2).f0)] rfl (by (try simp only [List.map_toArray, List.map_cons, List.map_nil]); first | done | rfl | (simp only [List.length_drop, List.length_take]; rfl)) ?_; (with_reducible refine (impl_parts.calls k2 ((rd_T48 l0 x26_2).f0) t183 t184 t185 _ A15.out).mono ?_); rintro e w' ⟨rfl, ⟨nd, rfl⟩⟩; refine ⟨_, rfl, ?_⟩) | ((with_reducible refine gate_callee (f := 32) rfl ?_); refine goesL_ (some 40) rfl rfl Try.func32 (by kernel_rfl) rfl #[.int .i64 ((rd_T48 l0 x26_2).f0), .int .i64 0, .int .i64 9] rfl (by (try simp only [List.map_toArray, List.map_cons, List.map_nil]); first | done | rfl | (simp only [List.length_drop, List.length_take]; rfl)) ?_; (with_reducible refine (impl_in.calls ((rd_T48 l0 x26_2).f0) 0 9 true _ A16.out).mono ?_); rintro e w' ⟨rfl, ⟨nd, rfl⟩⟩; refine ⟨_, rfl, ?_⟩) | (go_at_call 32; (with_reducible refine (impl_in.calls ((rd_T48 l0 x26_2).f2) 0 (wrap64 (x26_2 - 1)) false _ A49.out).mono ?_); rintro e w' ⟨rfl, ⟨nd, rfl⟩⟩))
                                go_ret
                                exact ⟨_, by first | rfl | (simp [errW_none, errW_some] <;> rfl) | (simp [*, errW_none, errW_some] <;> rfl), by first | exact Kd.R_nil _ _ _ _ _ | exact Kd.N_nil _ _ _ _ _ | exact Kd.V_nil _ _ _ _ _ | exact Kd.Q_nil _ _ _ _ _ | exact Kd.S_nil _ _ _ _ _, (by first | rfl | (intro _; rfl) | (intro h_; subst h_; exact absurd (show decide (0 < ((([] : List Int).length : Nat) : Int)) = true from by assumption) (by decide))), by repeat (first | (with_reducible first | exact HB.out | apply below_alloc | apply pw_below_drewN | apply below_drew1 | refine below_set ?_ GE182.out) | exact HB.out)⟩
                            · rw [if_neg c48] at H
                              have c48b0 : (((rd_T48 l0 x26_2).f1) == 0) = false := beq_eq_false_iff_ne.mpr c48
                              have c48b1 : (((rd_T48 l0 x26_2).f1) != 0) = true := bne_iff_ne.mpr c48
                              obtain rfl := Option.some.inj H
                              have p181 : 0 ≤ (x26_2 : Int) := of_decide_eq_true (by first | (with_reducible assumption) | assumption)
                              have q181 : x26_2 < (l0.length : Int) := of_decide_eq_true (by first | (with_reducible assumption) | assumption)
                              obtain ⟨ad181, e181, hx181_0, hx181_1, hx181_2, hx181_3⟩ := at_T48 HR0.out x26_2 p181 q181
                              cases e181
                              replace hx181_0 := (HB.out.cell (World.block_lt_of_cell? w _ hx181_0)).trans hx181_0
                              replace hx181_1 := (HB.out.cell (World.block_lt_of_cell? w _ hx181_1)).trans hx181_1
                              replace hx181_2 := (HB.out.cell (World.block_lt_of_cell? w _ hx181_2)).trans hx181_2
                              replace hx181_3 := (HB.out.cell (World.block_lt_of_cell? w _ hx181_3)).trans hx181_3
                              replace p181 := eq_true p181
                              replace q181 := eq_true q181
                              go_wp2_with (first | ((with_reducible refine gate_dst (N := 7) rfl ?_); (try (refine gate_guard (by rfl) ?_; dsimp only)); refine box_event ?hg (N := 7) ?hd (cs := #[.int .i64 0, .int .i64 0, .int .i64 0, .int .i64 0]) (t := 48) ?hr ?_; (case hd => rfl); (case hg => rfl); (case hr => first | (go_simp; done) | (go_simp; rfl)); intro gb182 hg w84 hbox hb; have n0_ := Aside0.mk (Kd.R_below (by (with_reducible repeat (first | apply Kd.R_alloc | apply Kd.R_drewN | apply Kd.R_drew)); exact HO_5.out) hb); have n1_ := Aside0.mk (below_step (by repeat (first | (with_reducible first | exact HB.out | apply below_alloc | apply pw_below_drewN | apply below_drew1) | exact HB.out)) hb); have n2_ := Aside0.mk (hbox); have n3_ := Aside0.mk ((by rw [hg]; exact (below_size (by repeat (first | (with_reducible first | exact HB.out | apply below_alloc | apply pw_below_drewN | apply below_drew1) | exact HB.out))) : w.heap.size ≤ gb182)); have n4_ := Aside0.mk ((by rw [hg]; exact (below_size (by repeat (first | (with_reducible first | exact HB.out | apply below_alloc | apply pw_below_drewN | apply below_drew1) | exact HB.out))) : w.heap.size ≤ gb182)); clear HO_5; clear HB; have HO_5 := n0_; have HB := n1_; have BK182 := n2_; have GW182 := n3_; have GE182 := n4_; clear n0_ n1_ n2_ n3_ n4_; clear hb hbox hg; have hcz85_0 : w84.cell? ⟨gb182, 0, none⟩ = some (.int .i64 0) := (blk_cell BK182.out 0).trans rfl; have hcz85_1 : w84.cell? ⟨gb182, 1, none⟩ = some (.int .i64 0) := (blk_cell BK182.out 1).trans rfl; have hcz85_2 : w84.cell? ⟨gb182, 2, none⟩ = some (.int .i64 0) := (blk_cell BK182.out 2).trans rfl; have hcz85_3 : w84.cell? ⟨gb182, 3, none⟩ = some (.int .i64 0) := (blk_cell BK182.out 3).trans rfl; have hfz85_0 := blk_frozen BK182.out 0; have hfz85_1 := blk_frozen BK182.out 1; have hfz85_2 := blk_frozen BK182.out 2; have hfz85_3 := blk_frozen BK182.out 3) | ((with_reducible refine gate_callee (f := 54) rfl ?_); refine goesL_ (some 34) rfl rfl Try.func54 (by kernel_rfl) rfl #[.int .i64 ((rd_T48 l0 x26_2).f0)] rfl (by (try simp only [List.map_toArray, List.map_cons, List.map_nil]); first | done | rfl | (simp only [List.length_drop, List.length_take]; rfl)) ?_; (with_reducible refine (impl_parts.calls k2 ((rd_T48 l0 x26_2).f0) t183 t184 t185 _ A15.out).mono ?_); rintro e w' ⟨rfl, ⟨nd, rfl⟩⟩; refine ⟨_, rfl, ?_⟩) | ((with_reducible refine gate_callee (f := 32) rfl ?_); refine goesL_ (some 40) rfl rfl Try.func32 (by kernel_rfl) rfl #[.int .i64 ((rd_T48 l0 x26_2).f0), .int .i64 0, .int .i64 9] rfl (by (try simp only [List.map_toArray, List.map_cons, List.map_nil]); first | done | rfl | (simp only [List.length_drop, List.length_take]; rfl)) ?_; (with_reducible refine (impl_in.calls ((rd_T48 l0 x26_2).f0) 0 9 true _ A16.out).mono ?_); rintro e w' ⟨rfl, ⟨nd, rfl⟩⟩; refine ⟨_, rfl, ?_⟩))
                              go_ret
                              exact ⟨_, by first | rfl | (simp [errW_none, errW_some] <;> rfl) | (simp [*, errW_none, errW_some] <;> rfl), by first | exact Kd.R_nil _ _ _ _ _ | exact Kd.N_nil _ _ _ _ _ | exact Kd.V_nil _ _ _ _ _ | exact Kd.Q_nil _ _ _ _ _ | exact Kd.S_nil _ _ _ _ _, (by first | rfl | (intro _; rfl) | (intro h_; subst h_; exact absurd (show decide (0 < ((([] : List Int).length : Nat) : Int)) = true from by assumption) (by decide))), by repeat (first | (with_reducible first | exact HB.out | apply below_alloc | apply pw_below_drewN | apply below_drew1 | refine below_set ?_ GE182.out) | exact HB.out)⟩
                          · replace c47 := Bool.eq_false_iff.mpr c47
                            subst c47
                            have H1 : (some ([] : List Int)) = some r := by rw [if_neg (show ¬ (false = true) by decide)] at H; exact H
                            clear H
                            have H := H1
                            clear H1
                            obtain rfl := Option.some.inj H
                            have p181 : 0 ≤ (x26_2 : Int) := of_decide_eq_true (by first | (with_reducible assumption) | assumption)
                            have q181 : x26_2 < (l0.length : Int) := of_decide_eq_true (by first | (with_reducible assumption) | assumption)
                            obtain ⟨ad181, e181, hx181_0, hx181_1, hx181_2, hx181_3⟩ := at_T48 HR0.out x26_2 p181 q181
                            cases e181
                            replace hx181_0 := (HB.out.cell (World.block_lt_of_cell? w _ hx181_0)).trans hx181_0
                            replace hx181_1 := (HB.out.cell (World.block_lt_of_cell? w _ hx181_1)).trans hx181_1
                            replace hx181_2 := (HB.out.cell (World.block_lt_of_cell? w _ hx181_2)).trans hx181_2
                            replace hx181_3 := (HB.out.cell (World.block_lt_of_cell? w _ hx181_3)).trans hx181_3
                            replace p181 := eq_true p181
                            replace q181 := eq_true q181
                            go_wp2_with (first | ((with_reducible refine gate_dst (N := 7) rfl ?_); (try (refine gate_guard (by rfl) ?_; dsimp only)); refine box_event ?hg (N := 7) ?hd (cs := #[.int .i64 0, .int .i64 0, .int .i64 0, .int .i64 0]) (t := 48) ?hr ?_; (case hd => rfl); (case hg => rfl); (case hr => first | (go_simp; done) | (go_simp; rfl)); intro gb182 hg w86 hbox hb; have n0_ := Aside0.mk (Kd.R_below (by (with_reducible repeat (first | apply Kd.R_alloc | apply Kd.R_drewN | apply Kd.R_drew)); exact HO_5.out) hb); have n1_ := Aside0.mk (below_step (by repeat (first | (with_reducible first | exact HB.out | apply below_alloc | apply pw_below_drewN | apply below_drew1) | exact HB.out)) hb); have n2_ := Aside0.mk (hbox); have n3_ := Aside0.mk ((by rw [hg]; exact (below_size (by repeat (first | (with_reducible first | exact HB.out | apply below_alloc | apply pw_below_drewN | apply below_drew1) | exact HB.out))) : w.heap.size ≤ gb182)); have n4_ := Aside0.mk ((by rw [hg]; exact (below_size (by repeat (first | (with_reducible first | exact HB.out | apply below_alloc | apply pw_below_drewN | apply below_drew1) | exact HB.out))) : w.heap.size ≤ gb182)); clear HO_5; clear HB; have HO_5 := n0_; have HB := n1_; have BK182 := n2_; have GW182 := n3_; have GE182 := n4_; clear n0_ n1_ n2_ n3_ n4_; clear hb hbox hg; have hcz87_0 : w86.cell? ⟨gb182, 0, none⟩ = some (.int .i64 0) := (blk_cell BK182.out 0).trans rfl; have hcz87_1 : w86.cell? ⟨gb182, 1, none⟩ = some (.int .i64 0) := (blk_cell BK182.out 1).trans rfl; have hcz87_2 : w86.cell? ⟨gb182, 2, none⟩ = some (.int .i64 0) := (blk_cell BK182.out 2).trans rfl; have hcz87_3 : w86.cell? ⟨gb182, 3, none⟩ = some (.int .i64 0) := (blk_cell BK182.out 3).trans rfl; have hfz87_0 := blk_frozen BK182.out 0; have hfz87_1 := blk_frozen BK182.out 1; have hfz87_2 := blk_frozen BK182.out 2; have hfz87_3 := blk_frozen BK182.out 3) | ((with_reducible refine gate_callee (f := 54) rfl ?_); refine goesL_ (some 34) rfl rfl Try.func54 (by kernel_rfl) rfl #[.int .i64 ((rd_T48 l0 x26_2).f0)] rfl (by (try simp only [List.map_toArray, List.map_cons, List.map_nil]); first | done | rfl | (simp only [List.length_drop, List.length_take]; rfl)) ?_; (with_reducible refine (impl_parts.calls k2 ((rd_T48 l0 x26_2).f0) t183 t184 t185 _ A15.out).mono ?_); rintro e w' ⟨rfl, ⟨nd, rfl⟩⟩; refine ⟨_, rfl, ?_⟩) | ((with_reducible refine gate_callee (f := 32) rfl ?_); refine goesL_ (some 40) rfl rfl Try.func32 (by kernel_rfl) rfl #[.int .i64 ((rd_T48 l0 x26_2).f0), .int .i64 0, .int .i64 9] rfl (by (try simp only [List.map_toArray, List.map_cons, List.map_nil]); first | done | rfl | (simp only [List.length_drop, List.length_take]; rfl)) ?_; (with_reducible refine (impl_in.calls ((rd_T48 l0 x26_2).f0) 0 9 false _ A16.out).mono ?_); rintro e w' ⟨rfl, ⟨nd, rfl⟩⟩; refine ⟨_, rfl, ?_⟩))
                            go_ret
                            exact ⟨_, by first | rfl | (simp [errW_none, errW_some] <;> rfl) | (simp [*, errW_none, errW_some] <;> rfl), by first | exact Kd.R_nil _ _ _ _ _ | exact Kd.N_nil _ _ _ _ _ | exact Kd.V_nil _ _ _ _ _ | exact Kd.Q_nil _ _ _ _ _ | exact Kd.S_nil _ _ _ _ _, (by first | rfl | (intro _; rfl) | (intro h_; subst h_; exact absurd (show decide (0 < ((([] : List Int).length : Nat) : Int)) = true from by assumption) (by decide))), by repeat (first | (with_reducible first | exact HB.out | apply below_alloc | apply pw_below_drewN | apply below_drew1 | refine below_set ?_ GE182.out) | exact HB.out)⟩
                    · rw [if_neg c14] at H
                      exact absurd H (by simp)
                  · rw [if_neg c13] at H
                    exact absurd H (by simp)
                · rw [if_neg c12] at H
                  have c12b0 : decide (x26_2 < (l0.length : Int)) = false := decide_eq_false c12
                  clear c12
                  by_cases c88 : 0 < (x5_2.length : Int)
                  · rw [if_pos c88] at H
                    have c88b0 := eq_true c88
                    have c88b1 : decide (0 < (x5_2.length : Int)) = true := decide_eq_true c88
                    clear c88
                    obtain rfl := Option.some.inj H
                    go_wp2
                    go_ret
                    exact ⟨_, by first | rfl | (simp [errW_none, errW_some] <;> rfl) | (simp [*, errW_none, errW_some] <;> rfl), by (with_reducible repeat (first | apply Kd.R_alloc | apply Kd.R_drewN | apply Kd.R_drew)); exact HO_5.out, (by first | rfl | (intro _; rfl) | (intro h_; subst h_; exact absurd (show decide (0 < ((([] : List Int).length : Nat) : Int)) = true from by assumption) (by decide))), by repeat (first | (with_reducible first | exact HB.out | apply below_alloc | apply pw_below_drewN | apply below_drew1) | exact HB.out)⟩
                  · rw [if_neg c88] at H
                    exact absurd H (by simp)
          · rw [if_neg c9] at H
            exact absurd H (by simp)
        · rw [if_neg c8] at H
          exact absurd H (by simp)

theorem impl_kindsOf.calls (k : Nat) (A0 : Option Addr) (c0 : Nat) (l0 : List (S48)) (a1 : Int) (r : List Int) (w : World) (hr0 : Kd.C k48 w A0 l0.length l0) (hc0 : l0.length ≤ c0) (h : impl_kindsOf.f k l0 a1 = some r) :
    Calls Try.prog 49 #[.slice A0 l0.length c0, .int .i64 a1] w fun e w' => ∃ v0_ : Value, e = .returned (v0_) ∧ Kd.R (Kd.int .i64) 3 w' w.heap.size (fun _ => True) v0_ r ∧ Below w.heap.size w w' := by
  refine (impl_kindsOf.calls_nil k A0 c0 l0 a1 r w hr0 hc0 h).mono ?_
  rintro e w' ⟨v, rfl, h1, _, h3⟩
  exact ⟨v, rfl, h1, h3⟩

/-! ### impl_TermsValid: function 31 (by hand) -/
def impl_TermsValid.f (k : Nat) (l0 : List (S48)) (a1 : Int) : Option (Bool) := (impl_kindsOf.f k l0 a1).bind fun t => some (decide (0 < t.length))
theorem impl_TermsValid.mono : ∀ a0 a1 k, LeO (impl_TermsValid.f k a0 a1) (impl_TermsValid.f (k + 1) a0 a1) := by
  intro a0 a1 k
  unfold impl_TermsValid.f
  exact LeO.bind (impl_kindsOf.mono _ _ _) (fun _ => LeO.refl _)
theorem impl_TermsValid.neq_nil {P : Program} {t e : TypeId} (h : P.underlying t = some (.slice e)) (w : World) (a : Option Addr) (n c : Nat) : (binOp .neq t (.slice a n c) (.slice none 0 0)).run P w = .ok (.bool (!a.isNone)) w := by
  have q1 : ∀ d, (Op.equalIn (d + 1) t (.slice a n c) (.slice none 0 0)).run P w = .ok a.isNone w := by
    intro d
    cases a <;> simp [Op.equalIn, run_underlying h]
  simp only [binOp]
  simp [Op.equal, Op.maxDepth, q1 9999]
set_option maxHeartbeats 4000000 in
set_option maxRecDepth 100000 in
theorem impl_TermsValid.calls (k : Nat) (A0 : Option Addr) (c0 : Nat) (l0 : List (S48)) (a1 : Int) (r : Bool) (w : World) (hr0 : Kd.C k48 w A0 l0.length l0) (hc0 : l0.length ≤ c0) (h : impl_TermsValid.f k l0 a1 = some r) :
    Calls Try.prog 31 #[.slice A0 l0.length c0, .int .i64 a1] w fun e w' => e = .returned (.bool r) ∧ Below w.heap.size w w' := by
  have HR0 := Aside0.mk hr0
  have HC0 := Aside0.mk hc0
  clear hr0 hc0
  unfold impl_TermsValid.f at h
  obtain ⟨t, ht, hr⟩ := Option.bind_eq_some_iff.mp h
  obtain rfl := Option.some.inj hr
  clear h hr
  have qn : ∀ (w : World) (a : Option Addr) (n c : Nat), (binOp .neq 32 (.slice a n c) (.slice none 0 0)).run Try.prog w = .ok (.bool (!a.isNone)) w := fun w a n c => impl_TermsValid.neq_nil Try.underlying32 w a n c
  by_cases he : t = []
  · subst he
    go_enter Try.func31, Try.ntmps31
    go_wp2_with (first | ((with_reducible refine gate_callee (f := 49) rfl ?_); refine goesL_ (some 7) rfl rfl Try.func49 (by kernel_rfl) rfl #[.slice A0 l0.length c0, .int .i64 a1] rfl (by (try simp only [List.map_toArray, List.map_cons, List.map_nil]); first | done | rfl) ?_; refine (impl_kindsOf.calls_nil k _ _ l0 a1 [] _ HR0.out HC0.out ht).mono ?_; rintro e w5 ⟨v, rfl, ho0, hnil, hb⟩; refine ⟨_, rfl, ?_⟩; obtain rfl := hnil rfl; have HB := Aside0.mk hb; clear hb hnil ho0))
    (try simp only [qn])
    (try go_wp2)
    go_ret
    exact ⟨by first | rfl | simp, HB.out⟩
  · have hp : 0 < t.length := List.length_pos_iff.mpr he
    go_enter Try.func31, Try.ntmps31
    go_wp2_with (first | ((with_reducible refine gate_callee (f := 49) rfl ?_); refine goesL_ (some 7) rfl rfl Try.func49 (by kernel_rfl) rfl #[.slice A0 l0.length c0, .int .i64 a1] rfl (by (try simp only [List.map_toArray, List.map_cons, List.map_nil]); first | done | rfl) ?_; refine (impl_kindsOf.calls_nil k _ _ l0 a1 t _ HR0.out HC0.out ht).mono ?_; rintro e w5 ⟨v, rfl, ho0, hnil, hb⟩; refine ⟨_, rfl, ?_⟩; obtain ⟨ad, cc, rfl⟩ := Kd.R_slice1 ho0 hp; have HB := Aside0.mk hb; clear hb hnil ho0))
    (try simp only [qn])
    (try go_wp2)
    go_ret
    exact ⟨by first | rfl | simp [hp] | simp_all, HB.out⟩

/-! ### impl_Term_33: function 33 (by hand) -/
def impl_Term_33.f (l0 : List S48) : Option (List S48) := if l0.length ≤ 8796093022208 then some l0 else none
set_option maxHeartbeats 4000000 in
set_option maxRecDepth 100000 in
theorem impl_Term_33.calls (A0 : Option Addr) (c0 : Nat) (l0 : List S48) (r : List S48) (w : World) (hr0 : Kd.C k48 w A0 l0.length l0) (hc0 : l0.length ≤ c0) (h : impl_Term_33.f l0 = some r) :
    Calls Try.prog 33 #[.slice A0 l0.length c0] w fun e w' => ∃ v0_ : Value, e = .returned v0_ ∧ Kd.R k48 48 w' w.heap.size (fun _ => True) v0_ r ∧ Below w.heap.size w w' := by
  unfold impl_Term_33.f at h
  by_cases hlim : l0.length ≤ 8796093022208
  · rw [if_pos hlim] at h
    obtain rfl := Option.some.inj h
    clear h
    have HR0 := Aside0.mk hr0
    have HC0 := Aside0.mk hc0
    clear hr0 hc0
    by_cases hz : l0.length = 0
    · obtain rfl := List.eq_nil_of_length_eq_zero hz
      go_enter Try.func33, Try.ntmps33
      go_wp2
      go_ret
      exact ⟨_, rfl, Kd.R_nil _ _ _ _ _, Below.refl _ _⟩
    · have c1 : ((l0.length : Int) == 0) = false := beq_eq_false_iff_ne.mpr (by omega)
      have c2 : (l0.length == 0) = false := by simpa using hz
      have c3 : ¬ (l0 = []) := fun h_ => hz (by rw [h_]; rfl)
      have c4 : 0 < l0.length := by omega
      go_enter Try.func33, Try.ntmps33
      go_wp2_with (first | ((with_reducible refine gate_dst (N := 9) rfl ?_); refine Kd.R_make k48 _ 48 rfl (N := 9) rfl 24 _ _ rfl (l0.length : Int) rfl rfl Try.underlying24 (.agg #[(.int .i64 0), (.int .i64 0), (.int .i64 0), (.int .i64 0)]) 32 info48 rfl (by decide) (by omega) z48 (ok := fun _ => True) (okp := fun _ => True) (k48_mkM _ _ _ z48) (fun _ hk => hk) trivial (by omega) (by have := hlim; simp only [Int.toNat_natCast]; omega) (Below.refl _ _) (Nat.le_refl _) ?_; intro v1 w1 ho hb hg_ hnew_; clear hg_ hnew_; have HO := Aside0.mk ho; have HB := Aside0.mk hb; clear ho hb) | ((with_reducible refine gate_dst (N := 12) rfl ?_); refine Go.Proofs.YthcegdgffdppgadX.R_copy k48 _ 48 rfl (N := 12) rfl (.tmp 10) (.tmp 11) 24 24 rfl Try.underlying24 (by kernel_rfl) (by decide) rfl rfl HO.out (Kd.C_below HR0.out HB.out) (by rw [List.length_replicate]; omega) c4 (fun _ _ x_ _ h_ => by rw [k48_open h_]; exact k48_mkM _ _ _ x_) HB.out ?_; intro w2 ho hb; have HO2 := Aside0.mk ho; have HB2 := Aside0.mk hb; clear ho hb))
      go_ret
      exact ⟨_, rfl, HO2.out, HB2.out⟩
  · rw [if_neg hlim] at h
    exact absurd h (by simp)

/-! ### impl_Term_50: function 50 (by hand) -/
def impl_Term_50.f (l0 : List (S48)) : Option (List (S48)) := if l0.length ≤ 4398046511104 then some l0 else none
theorem impl_Term_50.eq_nil {P : Program} {t e : TypeId} (h : P.underlying t = some (.slice e)) (w : World) (a : Option Addr) (n c : Nat) : (binOp .eql t (.slice a n c) (.slice none 0 0)).run P w = .ok (.bool a.isNone) w := by
  have q1 : ∀ d, (Op.equalIn (d + 1) t (.slice a n c) (.slice none 0 0)).run P w = .ok a.isNone w := by
    intro d
    cases a <;> simp [Op.equalIn, run_underlying h]
  simp only [binOp]
  simp [Op.equal, Op.maxDepth, q1 9999]
set_option maxHeartbeats 4000000 in
set_option maxRecDepth 100000 in
theorem impl_Term_50.calls (A0 : Option Addr) (c0 : Nat) (l0 : List (S48)) (r : List (S48)) (w : World) (hr0 : Kd.C k48 w A0 l0.length l0) (hc0 : l0.length ≤ c0) (h : impl_Term_50.f l0 = some r) :
    Calls Try.prog 50 #[.slice A0 l0.length c0] w fun e w' => ∃ v0_ : Value, e = .returned v0_ ∧ Kd.R k48 48 w' w.heap.size (fun _ => True) v0_ r ∧ Below w.heap.size w w' := by
  unfold impl_Term_50.f at h
  by_cases hlim : l0.length ≤ 4398046511104
  · rw [if_pos hlim] at h
    obtain rfl := Option.some.inj h
    clear h
    have HR0 := Aside0.mk hr0
    have HC0 := Aside0.mk hc0
    clear hr0 hc0
    have qn : ∀ (w : World) (a : Option Addr) (n c : Nat), (binOp .eql 24 (.slice a n c) (.slice none 0 0)).run Try.prog w = .ok (.bool a.isNone) w := fun w a n c => impl_Term_50.eq_nil Try.underlying24 w a n c
    cases A0 with
    | none =>
      have hz : l0 = [] := by
        by_cases hz : l0 = []
        · exact hz
        · exfalso
          have hp := List.length_pos_iff.mpr hz
          obtain ⟨ad, e, _⟩ := at_T48 HR0.out 0 (by omega) (by omega)
          cases e
      subst hz
      go_enter Try.func50, Try.ntmps50
      go_wp2
      (try simp only [qn])
      (try go_wp2)
      go_ret
      exact ⟨_, rfl, Kd.R_nil _ _ _ _ _, Below.refl _ _⟩
    | some ad =>
      go_enter Try.func50, Try.ntmps50
      go_wp2_with (first | ((with_reducible refine gate_dst (N := 5) rfl ?_); refine Kd.R_lit k48 _ 48 ?hg (N := 5) ?hd (xs := ([] : List (S48))) (inner := []) (ok := fun _ => True) (okp := fun _ => True) ?hr ?hp (fun _ hk => hk) trivial (Below.refl _ _) (Nat.le_refl _) (by simp) ?_; (case hd => rfl); (case hg => rfl); (case hr => first | (go_simp; done) | (go_simp; rfl)); (case hp => exact (Reps.none _ _)); intro v1 w1 ho hb hg_ hnew_; clear hg_ hnew_; have HO := Aside0.mk ho; have HB := Aside0.mk hb; clear ho hb) | ((with_reducible refine gate_builtin (b := .append) (xs := #[.tmp 5, .tmp 6]) rfl ?_); at_builtin; refine Kd.R_append_rows k48 (w0 := w) w.heap.size rfl (.tmp 5) (.tmp 6) 24 48 (.agg #[(.int .i64 0), (.int .i64 0), (.int .i64 0), (.int .i64 0)]) 32 rfl Try.underlying24 info48 rfl (by decide) (by omega) v1 ([] : List (S48)) l0 _ _ _ (fun _ => True) (fun _ => False) rfl rfl (Kd.R_lower HO.out (Nat.le_refl _)) (Kd.C_below HR0.out HB.out) (fun x_ _ h_ => by rw [k48_open h_]; exact k48_mkM _ _ _ x_) (fun _ h => h.elim) (fun _ _ => trivial) HB.out (below_size HB.out) (by simp only [List.length_nil, Nat.zero_add]; omega) ?_; intro v2 w2 ho hb hg hat; rw [List.nil_append] at ho; have HO2 := Aside0.mk ho; have HB2 := Aside0.mk hb; clear ho hb hg hat))
      go_ret
      exact ⟨_, rfl, HO2.out, HB2.out⟩
  · rw [if_neg hlim] at h
    exact absurd h (by simp)

end Go.Proofs.Ythcegdgffdppgad.XFnExactJoined
