/- Printed by a program of this session out of the translation: the Go functions that a law uses as plain Lean functions, with the proofs of their calls, or the law's row.
Conditions: those that each theorem states. -/
import Derived.Test.YthphgkhmeobadacXFnExactCountModelsx0
import Derived.Test.YthphgkhmeobadacXFnExactCountModelsx3
namespace Go.Proofs.Ythphgkhmeobadac.XFnExactCountModels
open Go.RowKit Go.Proofs.YthphgkhmeobadacW.PrintWords Go.Proofs.YthphgkhmeobadacW.PrintLast Go.Proofs.YthphgkhmeobadacW.PrintMore
attribute [local go_sem] max2_int min2_int max_two min_two max_three min_three max_four min_four   -- for this text's walks alone
set_option linter.unusedVariables false
set_option linter.unusedSimpArgs false

/-! ### impl_ClausesValid: function 23 (by hand) -/
set_option maxHeartbeats 4000000 in
set_option maxRecDepth 100000 in
theorem clo_34_31 (cap : Value) (n : Nat) (vals : Int → Value) (p : Int → Bool) (A0 : Option Addr) (c0 : Nat) (w : World) (hmax : n ≤ 9223372036854775807)
    (hcell : ∀ x : Int, 0 ≤ x → x < n → ∃ ad, A0 = some ad ∧ w.cell? (ad.add x.toNat) = some (vals x))
    (hg : ∀ x : Int, 0 ≤ x → x < n → ∀ W, Below w.heap.size w W → Calls Try.prog 31 #[vals x, cap] W fun e W' => e = .returned (.bool (p x)) ∧ Below W.heap.size W W') :
    Calls Try.prog 34 #[.slice A0 n c0, .func (.func 31) #[] #[cap]] w fun e w' => ∃ j : Int, e = .returned (.int .i64 j) ∧ ((0 ≤ j ∧ ∃ x : Int, 0 ≤ x ∧ x < n ∧ p x = true) ∨ (j = -1 ∧ ∀ x : Int, 0 ≤ x → x < n → p x = false)) ∧ Below w.heap.size w w' := by
  have HC := Aside0.mk hcell
  have HG := Aside0.mk hg
  clear hcell hg
  go_enter Try.func34, Try.ntmps34
  go_wp2
  go_loopg [8] (n + 1) (fun kq v8 w' => ∃ x : Int, v8 = .int .i64 x ∧ Aside0 (0 ≤ x ∧ x ≤ n ∧ (kq : Int) + x = n + 1) ∧ Aside0 (∀ y : Int, 0 ≤ y → y < x → p y = false) ∧ Aside0 (Below w.heap.size w w'))
  case atStart => exact ⟨0, rfl, ⟨by omega, by omega, by omega⟩, ⟨fun y h0 h1 => by omega⟩, ⟨Below.refl _ _⟩⟩
  case round =>
    obtain ⟨x, rfl, ⟨h0, h1, hk⟩, HF, HB⟩ := hrel
    by_cases c3 : x < (n : Int)
    · have c3b0 : decide (x < (n : Int)) = true := decide_eq_true c3
      obtain ⟨ad, e168, hx⟩ := HC.out x h0 c3
      cases e168
      replace hx := (HB.out.cell (World.block_lt_of_cell? w _ hx)).trans hx
      have p168 := eq_true h0
      have q168 := eq_true c3
      by_cases hp : p x = true
      · have HG1 := HG.out x h0 c3
        rw [hp] at HG1
        have HG2 := Aside0.mk HG1
        clear HG1
        go_wp2_with (first | (go_at_call 31; refine (HG2.out _ HB.out).mono ?_; rintro e w' ⟨rfl, hb⟩; have HB2 := Aside0.mk (below_step HB.out hb); clear hb))
        go_ret
        exact ⟨_, rfl, .inl ⟨h0, x, h0, c3, hp⟩, HB2.out⟩
      · replace hp := Bool.eq_false_iff.mpr hp
        have HG1 := HG.out x h0 c3
        rw [hp] at HG1
        have HG2 := Aside0.mk HG1
        clear HG1
        have hw : wrap64 (x + 1) = x + 1 := by unfold wrap64; omega
        go_wp2_with (first | (go_at_call 31; refine (HG2.out _ HB.out).mono ?_; rintro e w' ⟨rfl, hb⟩; have HB2 := Aside0.mk (below_step HB.out hb); clear hb))
        go_roundg (gk - 1)
        case measure => omega
        case rel => exact ⟨_, rfl, ⟨by (try rw [hw]); omega, by (try rw [hw]); omega, by (try rw [hw]); omega⟩, ⟨fun y hy0 hy1 => by (try rw [hw] at hy1); exact (if e : y = x then by rw [e]; exact hp else HF.out y hy0 (by omega))⟩, HB2⟩
    · have c3b0 : decide (x < (n : Int)) = false := decide_eq_false c3
      go_wp2
      go_ret
      exact ⟨_, rfl, .inr ⟨rfl, fun y hy0 hy1 => HF.out y hy0 (by omega)⟩, HB.out⟩
set_option maxHeartbeats 4000000 in
set_option maxRecDepth 100000 in
theorem has_30_31 (cap : Value) (n : Nat) (vals : Int → Value) (p : Int → Bool) (A0 : Option Addr) (c0 : Nat) (w : World) (hmax : n ≤ 9223372036854775807)
    (hcell : ∀ x : Int, 0 ≤ x → x < n → ∃ ad, A0 = some ad ∧ w.cell? (ad.add x.toNat) = some (vals x))
    (hg : ∀ x : Int, 0 ≤ x → x < n → ∀ W, Below w.heap.size w W → Calls Try.prog 31 #[vals x, cap] W fun e W' => e = .returned (.bool (p x)) ∧ Below W.heap.size W W') :
    Calls Try.prog 30 #[.slice A0 n c0, .func (.func 31) #[] #[cap]] w fun e w' => ∃ b : Bool, e = .returned (.bool b) ∧ (b = true ↔ ∃ x : Int, 0 ≤ x ∧ x < n ∧ p x = true) ∧ Below w.heap.size w w' := by
  go_enter Try.func30, Try.ntmps30
  go_wp2_with (first | (go_at_call 34; refine (clo_34_31 cap n vals p A0 c0 _ hmax hcell hg).mono ?_; rintro e w' ⟨j, rfl, hj, hb⟩; have HJ := Aside0.mk hj; have HB := Aside0.mk hb; clear hj hb))
  go_ret
  refine ⟨_, rfl, ?_, HB.out⟩
  rcases HJ.out with ⟨h1, h2⟩ | ⟨h1, h2⟩
  · exact ⟨fun _ => h2, fun _ => decide_eq_true h1⟩
  · subst h1
    refine ⟨fun h => absurd h (by decide), fun ⟨x, h3, h4, h5⟩ => ?_⟩
    rw [h2 x h3 h4] at h5
    cases h5
def impl_ClausesValid.f (k : Nat) (a0_0 : Int) (l0_1 : List (List Int)) : Option (Bool) := (impl_in.f a0_0 0 700).bind fun t => if t = true then (if (l0_1.length : Int) ≤ 2500 then Go.Proofs.YthphgkhmeobadacX.allO (fun c => impl_ClauseValid.f k c a0_0) l0_1 else some false) else some false
theorem impl_ClausesValid.mono : ∀ a0 a1 k, LeO (impl_ClausesValid.f k a0 a1) (impl_ClausesValid.f (k + 1) a0 a1) := by
  intro a0 a1 k
  unfold impl_ClausesValid.f
  exact LeO.bind (LeO.refl _) (fun _ => LeO.ite (LeO.ite (Go.Proofs.YthphgkhmeobadacX.allO_mono (fun c => impl_ClauseValid.mono _ _ _) _) (LeO.refl _)) (LeO.refl _))
set_option maxHeartbeats 4000000 in
set_option maxRecDepth 100000 in
theorem impl_ClausesValid.clo (k : Nat) (g : Nat) (a : Int) (A : Option Addr) (c : Nat) (l : List Int) (b : Bool) (w : World) (hbox : w.cell? ⟨g, 0, none⟩ = some (.int .i64 a)) (hr : Kd.C (Kd.int .i64) w A l.length l) (hc : l.length ≤ c) (h : impl_ClauseValid.f k l a = some b) :
    Calls Try.prog 31 #[.slice A l.length c, .pointer (some ⟨g, 0, none⟩)] w fun e w' => e = .returned (.bool (!b)) ∧ Below w.heap.size w w' := by
  have HR := Aside0.mk hr
  have HC := Aside0.mk hc
  have HH := Aside0.mk h
  clear hr hc h
  go_enter Try.func31, Try.ntmps31
  go_wp2_with (first | (go_at_call 32; refine (impl_ClauseValid.calls k A c l a b _ HR.out HC.out HH.out).mono ?_; rintro e w' ⟨rfl, hb⟩; have HB := Aside0.mk hb; clear hb))
  go_ret
  exact ⟨rfl, HB.out⟩
set_option maxHeartbeats 4000000 in
set_option maxRecDepth 100000 in
theorem impl_ClausesValid.calls (k : Nat) (a0_0 : Int) (A0_1 : Option Addr) (c0_1 : Nat) (l0_1 : List (List Int)) (r : Bool) (w : World) (hr0_1 : Kd.C (Kd.slice 3 (Kd.int .i64)) w A0_1 l0_1.length l0_1) (hc0_1 : l0_1.length ≤ c0_1) (h : impl_ClausesValid.f k a0_0 l0_1 = some r) :
    Calls Try.prog 23 #[.agg #[.int .i64 a0_0, .slice A0_1 l0_1.length c0_1]] w fun e w' => e = .returned (.bool r) ∧ Below w.heap.size w w' := by
  have HR := Aside0.mk hr0_1
  have HC := Aside0.mk hc0_1
  clear hr0_1 hc0_1
  unfold impl_ClausesValid.f at h
  obtain ⟨t, ht, h⟩ := Option.bind_eq_some_iff.mp h
  have HT := Aside0.mk ht
  have H := Aside0.mk h
  clear ht h
  have hmf : ∀ (fn : Fn) (first cap : Array Value) (w : World), (Instr.makeFunc fn first cap).run Try.prog w = .ok (.func fn first cap) w := fun _ _ _ _ => rfl
  cases t with
  | false =>
    have h := H.out
    rw [if_neg (by decide)] at h
    obtain rfl := Option.some.inj h
    clear h H
    go_enter Try.func23, Try.ntmps23
    go_wp2_with (first | ((with_reducible refine gate_dst (N := 1) rfl ?_); refine box_event ?hg (N := 1) ?hd (cs := #[.int .i64 a0_0, .slice A0_1 l0_1.length c0_1]) (t := 27) ?hr ?_; (case hd => rfl); (case hg => rfl); (case hr => first | (go_simp; done) | (go_simp; rfl)); intro gb hg w5 hbox hb; have HB := Aside0.mk hb; have hcz0 : w5.cell? ⟨gb, 0, none⟩ = some (.int .i64 a0_0) := (blk_cell hbox 0).trans rfl; have hcz1 : w5.cell? ⟨gb, 1, none⟩ = some (.slice A0_1 l0_1.length c0_1) := (blk_cell hbox 1).trans rfl; clear hb hg hbox) | ((with_reducible refine gate_callee (f := 29) rfl ?_); refine goesL_ (some 5) rfl rfl Try.func29 (by kernel_rfl) rfl #[.int .i64 a0_0, .int .i64 0, .int .i64 700] rfl (by (try simp only [List.map_toArray, List.map_cons, List.map_nil]); first | done | rfl) ?_; (with_reducible refine (impl_in.calls a0_0 0 700 false _ HT.out).mono ?_); rintro e w' ⟨rfl, ⟨nd, rfl⟩⟩; refine ⟨_, rfl, ?_⟩))
    go_ret
    exact ⟨rfl, by repeat (first | exact HB.out | apply pw_below_drewN)⟩
  | true =>
    have h := H.out
    rw [if_pos rfl] at h
    clear H
    by_cases hl : (l0_1.length : Int) ≤ 2500
    · rw [if_pos hl] at h
      obtain ⟨h1, rfl⟩ := Go.Proofs.YthphgkhmeobadacX.allO_some h
      have HA := Aside0.mk h1
      clear h1 h
      have hlb : decide ((l0_1.length : Int) ≤ 2500) = true := decide_eq_true hl
      obtain ⟨vals, hvals⟩ := Go.Proofs.YthphgkhmeobadacX.rows_vals HR.out
      have HV := Aside0.mk hvals
      clear hvals
      have hmax : l0_1.length ≤ 9223372036854775807 := by omega
      go_enter Try.func23, Try.ntmps23
      go_wp2_with (first | ((with_reducible refine gate_dst (N := 1) rfl ?_); refine box_event ?hg (N := 1) ?hd (cs := #[.int .i64 a0_0, .slice A0_1 l0_1.length c0_1]) (t := 27) ?hr ?_; (case hd => rfl); (case hg => rfl); (case hr => first | (go_simp; done) | (go_simp; rfl)); intro gb hg w5 hbox hb; have HB := Aside0.mk hb; have hcz0 : w5.cell? ⟨gb, 0, none⟩ = some (.int .i64 a0_0) := (blk_cell hbox 0).trans rfl; have hcz1 : w5.cell? ⟨gb, 1, none⟩ = some (.slice A0_1 l0_1.length c0_1) := (blk_cell hbox 1).trans rfl; clear hb hg hbox) | ((with_reducible refine gate_callee (f := 29) rfl ?_); refine goesL_ (some 5) rfl rfl Try.func29 (by kernel_rfl) rfl #[.int .i64 a0_0, .int .i64 0, .int .i64 700] rfl (by (try simp only [List.map_toArray, List.map_cons, List.map_nil]); first | done | rfl) ?_; (with_reducible refine (impl_in.calls a0_0 0 700 true _ HT.out).mono ?_); rintro e w' ⟨rfl, ⟨nd, rfl⟩⟩; refine ⟨_, rfl, ?_⟩) | (go_at_call 30; refine (has_30_31 (.pointer (some ⟨gb, 0, none⟩)) l0_1.length vals (fun x => !(impl_ClauseValid.f k (l0_1.getD x.toNat []) a0_0).getD false) A0_1 c0_1 _ hmax ?aC ?aG).mono ?_; (case aC => intro x h0 h1; obtain ⟨⟨ad, e, hc⟩, _⟩ := HV.out x h0 h1; exact ⟨ad, e, ((pw_below_drewN HB.out _).cell (World.block_lt_of_cell? w _ hc)).trans hc⟩); (case aG => intro x h0 h1 W hW; obtain ⟨_, A, c, e, hc, hC⟩ := HV.out x h0 h1; rw [e]; have hW2 := below_step (pw_below_drewN HB.out nd) hW; have hbx : W.cell? ⟨gb, 0, none⟩ = some (.int .i64 a0_0) := ((hW.cell (World.block_lt_of_cell? _ _ (show (w5.drewN nd).cell? ⟨gb, 0, none⟩ = _ from hcz0))).trans hcz0); exact impl_ClausesValid.clo k gb a0_0 A c _ _ W hbx (Kd.C_below hC hW2) hc (HA.out _ (Go.Proofs.YthphgkhmeobadacX.getD_mem' h0 h1))); rintro e w' ⟨b, rfl, hb, hbel⟩; have HE := Aside0.mk hb; have HB2 := Aside0.mk (below_step (pw_below_drewN HB.out nd) hbel); clear hb hbel))
      go_ret
      exact ⟨(show Ending.returned (.bool (!b)) = _ from congrArg (fun b => Ending.returned (Value.bool b)) (Go.Proofs.YthphgkhmeobadacX.not_any HE.out)), HB2.out⟩
    · rw [if_neg hl] at h
      obtain rfl := Option.some.inj h
      clear h
      have hlb : decide ((l0_1.length : Int) ≤ 2500) = false := decide_eq_false hl
      go_enter Try.func23, Try.ntmps23
      go_wp2_with (first | ((with_reducible refine gate_dst (N := 1) rfl ?_); refine box_event ?hg (N := 1) ?hd (cs := #[.int .i64 a0_0, .slice A0_1 l0_1.length c0_1]) (t := 27) ?hr ?_; (case hd => rfl); (case hg => rfl); (case hr => first | (go_simp; done) | (go_simp; rfl)); intro gb hg w5 hbox hb; have HB := Aside0.mk hb; have hcz0 : w5.cell? ⟨gb, 0, none⟩ = some (.int .i64 a0_0) := (blk_cell hbox 0).trans rfl; have hcz1 : w5.cell? ⟨gb, 1, none⟩ = some (.slice A0_1 l0_1.length c0_1) := (blk_cell hbox 1).trans rfl; clear hb hg hbox) | ((with_reducible refine gate_callee (f := 29) rfl ?_); refine goesL_ (some 5) rfl rfl Try.func29 (by kernel_rfl) rfl #[.int .i64 a0_0, .int .i64 0, .int .i64 700] rfl (by (try simp only [List.map_toArray, List.map_cons, List.map_nil]); first | done | rfl) ?_; (with_reducible refine (impl_in.calls a0_0 0 700 true _ HT.out).mono ?_); rintro e w' ⟨rfl, ⟨nd, rfl⟩⟩; refine ⟨_, rfl, ?_⟩))
      go_ret
      exact ⟨rfl, by repeat (first | exact HB.out | apply pw_below_drewN)⟩

/-! ### impl_freeOk: function 13 -/
def impl_freeOk.f (k : Nat) (a0_0 : Int) (l0_1 : List (List Int)) : Option (Bool) := (impl_ClausesValid.f k a0_0 l0_1).bind fun t183 => (if t183 = true then (some (decide (a0_0 ≤ 20))) else (some false))
theorem impl_freeOk.mono : ∀ a0 a1 k, LeO (impl_freeOk.f k a0 a1) (impl_freeOk.f (k + 1) a0 a1) := by
  intro a0 a1 k
  unfold impl_freeOk.f
  repeat' first
      | (with_reducible exact impl_ClausesValid.mono _ _ _)
      | (with_reducible exact LeO.refl _)
      | (with_reducible exact LeO.none _)
      | (with_reducible refine LeO.ite ?_ ?_)
      | (with_reducible refine LeO.bind ?_ (fun _ => ?_))
      | exact impl_ClausesValid.mono _ _ _
      | exact LeO.none _
      | refine LeO.ite ?_ ?_
      | refine LeO.bind ?_ (fun _ => ?_)
set_option maxHeartbeats 8000000 in
set_option maxRecDepth 100000 in
theorem impl_freeOk.calls (k : Nat) (a0_0 : Int) (A0_1 : Option Addr) (c0_1 : Nat) (l0_1 : List (List Int)) (r : Bool) (w : World) (hr0_1 : Kd.C (Kd.slice 3 (Kd.int .i64)) w A0_1 l0_1.length l0_1) (hc0_1 : l0_1.length ≤ c0_1) (h : impl_freeOk.f k a0_0 l0_1 = some r) :
    Calls Try.prog 13 #[.agg #[.int .i64 a0_0, .slice A0_1 l0_1.length c0_1]] w fun e w' => e = .returned (.bool r) ∧ Below w.heap.size w w' := by
  have hu27 := Try.underlying27
  have HR0_1 := Aside0.mk hr0_1
  have HC0_1 := Aside0.mk hc0_1
  clear hr0_1 hc0_1
  have HB := Aside0.mk (Below.refl w.heap.size w)
  have H : ((impl_ClausesValid.f k a0_0 l0_1).bind fun t183 => (if t183 = true then (some (decide (a0_0 ≤ 20))) else (some false))) = some r := h
  clear h
  replace H := Option.bind_eq_some_iff.mp H
  obtain ⟨t183, A20, H⟩ := H
  replace H : (if t183 = true then (some (decide (a0_0 ≤ 20))) else (some false)) = some r := H
  have A2 := Aside0.mk A20
  clear A20
  by_cases c3 : t183 = true
  · subst c3
    have H1 : (some (decide (a0_0 ≤ 20))) = some r := by rw [if_pos rfl] at H; exact H
    clear H
    have H := H1
    clear H1
    obtain rfl := Option.some.inj H
    go_enter Try.func13, Try.ntmps13
    go_wp2_with (first | ((with_reducible refine gate_dst (N := 1) rfl ?_); refine box_event ?hg (N := 1) ?hd (cs := #[.int .i64 a0_0, .slice A0_1 l0_1.length c0_1]) (t := 27) ?hr ?_; (case hd => rfl); (case hg => rfl); (case hr => first | (go_simp; done) | (go_simp; rfl)); intro gb182 hg w4 hbox hb; have n0_ := Aside0.mk (below_step (by repeat (first | (with_reducible first | exact HB.out | apply below_alloc | apply pw_below_drewN | apply below_drew1) | exact HB.out)) hb); have n1_ := Aside0.mk (hbox); have n2_ := Aside0.mk ((by rw [hg]; exact (below_size (by repeat (first | (with_reducible first | exact HB.out | apply below_alloc | apply pw_below_drewN | apply below_drew1) | exact HB.out))) : w.heap.size ≤ gb182)); have n3_ := Aside0.mk ((by rw [hg]; exact (below_size (by repeat (first | (with_reducible first | exact HB.out | apply below_alloc | apply pw_below_drewN | apply below_drew1) | exact HB.out))) : w.heap.size ≤ gb182)); clear HB; have HB := n0_; have BK182 := n1_; have GW182 := n2_; have GE182 := n3_; clear n0_ n1_ n2_ n3_; clear hb hbox hg; have hcz5_0 : w4.cell? ⟨gb182, 0, none⟩ = some (.int .i64 a0_0) := (blk_cell BK182.out 0).trans rfl; have hcz5_1 : w4.cell? ⟨gb182, 1, none⟩ = some (.slice A0_1 l0_1.length c0_1) := (blk_cell BK182.out 1).trans rfl; have hfz5_0 := blk_frozen BK182.out 0; have hfz5_1 := blk_frozen BK182.out 1) | ((with_reducible refine gate_callee (f := 23) rfl ?_); refine goesL_ (some 4) rfl rfl Try.func23 (by kernel_rfl) rfl #[.agg #[.int .i64 a0_0, .slice A0_1 l0_1.length c0_1]] rfl (by (try simp only [List.map_toArray, List.map_cons, List.map_nil]); first | done | rfl | (simp only [List.length_drop, List.length_take]; rfl)) ?_; (with_reducible refine (impl_ClausesValid.calls k a0_0 _ _ l0_1 true _ ?side1 ?side2 A2.out).mono ?_); (case side1 => repeat (first | exact (Kd.C_below HR0_1.out HB.out) | (with_reducible refine Kd.C_alloc ?_ _) | (with_reducible refine Kd.C_drewN ?_ _) | (with_reducible refine Kd.C_drew ?_))); (case side2 => exact HC0_1.out); rintro e w6 ⟨rfl, hb⟩; refine ⟨_, rfl, ?_⟩; have n0_ := Aside0.mk (blk_below (g := gb182) (o := .cells #[.int .i64 a0_0, .slice A0_1 l0_1.length c0_1] 27 (0, 0)) (by (with_reducible repeat (first | refine blk_drewN ?_ _ | refine blk_drew ?_ | refine blk_alloc ?_ _)); exact BK182.out) hb); have n1_ := Aside0.mk (below_step (by repeat (first | (with_reducible first | exact HB.out | apply below_alloc | apply pw_below_drewN | apply below_drew1 | refine below_set ?_ GE182.out) | exact HB.out)) hb); clear BK182; clear HB; have BK182 := n0_; have HB := n1_; clear n0_ n1_; (try clear hb); (try clear hb2); (try clear hk); (try clear hi); have hcz7_0 : w6.cell? ⟨gb182, 0, none⟩ = some (.int .i64 a0_0) := (blk_cell BK182.out 0).trans rfl; have hcz7_1 : w6.cell? ⟨gb182, 1, none⟩ = some (.slice A0_1 l0_1.length c0_1) := (blk_cell BK182.out 1).trans rfl; have hfz7_0 := blk_frozen BK182.out 0; have hfz7_1 := blk_frozen BK182.out 1))
    go_ret
    exact ⟨by first | rfl | (simp [errW_none, errW_some] <;> rfl) | (simp [*, errW_none, errW_some] <;> rfl), by repeat (first | (with_reducible first | exact HB.out | apply below_alloc | apply pw_below_drewN | apply below_drew1 | refine below_set ?_ GE182.out) | exact HB.out)⟩
  · replace c3 := Bool.eq_false_iff.mpr c3
    subst c3
    have H1 : (some false) = some r := by rw [if_neg (show ¬ (false = true) by decide)] at H; exact H
    clear H
    have H := H1
    clear H1
    obtain rfl := Option.some.inj H
    go_enter Try.func13, Try.ntmps13
    go_wp2_with (first | ((with_reducible refine gate_dst (N := 1) rfl ?_); refine box_event ?hg (N := 1) ?hd (cs := #[.int .i64 a0_0, .slice A0_1 l0_1.length c0_1]) (t := 27) ?hr ?_; (case hd => rfl); (case hg => rfl); (case hr => first | (go_simp; done) | (go_simp; rfl)); intro gb182 hg w8 hbox hb; have n0_ := Aside0.mk (below_step (by repeat (first | (with_reducible first | exact HB.out | apply below_alloc | apply pw_below_drewN | apply below_drew1) | exact HB.out)) hb); have n1_ := Aside0.mk (hbox); have n2_ := Aside0.mk ((by rw [hg]; exact (below_size (by repeat (first | (with_reducible first | exact HB.out | apply below_alloc | apply pw_below_drewN | apply below_drew1) | exact HB.out))) : w.heap.size ≤ gb182)); have n3_ := Aside0.mk ((by rw [hg]; exact (below_size (by repeat (first | (with_reducible first | exact HB.out | apply below_alloc | apply pw_below_drewN | apply below_drew1) | exact HB.out))) : w.heap.size ≤ gb182)); clear HB; have HB := n0_; have BK182 := n1_; have GW182 := n2_; have GE182 := n3_; clear n0_ n1_ n2_ n3_; clear hb hbox hg; have hcz9_0 : w8.cell? ⟨gb182, 0, none⟩ = some (.int .i64 a0_0) := (blk_cell BK182.out 0).trans rfl; have hcz9_1 : w8.cell? ⟨gb182, 1, none⟩ = some (.slice A0_1 l0_1.length c0_1) := (blk_cell BK182.out 1).trans rfl; have hfz9_0 := blk_frozen BK182.out 0; have hfz9_1 := blk_frozen BK182.out 1) | ((with_reducible refine gate_callee (f := 23) rfl ?_); refine goesL_ (some 4) rfl rfl Try.func23 (by kernel_rfl) rfl #[.agg #[.int .i64 a0_0, .slice A0_1 l0_1.length c0_1]] rfl (by (try simp only [List.map_toArray, List.map_cons, List.map_nil]); first | done | rfl | (simp only [List.length_drop, List.length_take]; rfl)) ?_; (with_reducible refine (impl_ClausesValid.calls k a0_0 _ _ l0_1 false _ ?side1 ?side2 A2.out).mono ?_); (case side1 => repeat (first | exact (Kd.C_below HR0_1.out HB.out) | (with_reducible refine Kd.C_alloc ?_ _) | (with_reducible refine Kd.C_drewN ?_ _) | (with_reducible refine Kd.C_drew ?_))); (case side2 => exact HC0_1.out); rintro e w10 ⟨rfl, hb⟩; refine ⟨_, rfl, ?_⟩; have n0_ := Aside0.mk (blk_below (g := gb182) (o := .cells #[.int .i64 a0_0, .slice A0_1 l0_1.length c0_1] 27 (0, 0)) (by (with_reducible repeat (first | refine blk_drewN ?_ _ | refine blk_drew ?_ | refine blk_alloc ?_ _)); exact BK182.out) hb); have n1_ := Aside0.mk (below_step (by repeat (first | (with_reducible first | exact HB.out | apply below_alloc | apply pw_below_drewN | apply below_drew1 | refine below_set ?_ GE182.out) | exact HB.out)) hb); clear BK182; clear HB; have BK182 := n0_; have HB := n1_; clear n0_ n1_; (try clear hb); (try clear hb2); (try clear hk); (try clear hi)))
    go_ret
    exact ⟨by first | rfl | (simp [errW_none, errW_some] <;> rfl) | (simp [*, errW_none, errW_some] <;> rfl), by repeat (first | (with_reducible first | exact HB.out | apply below_alloc | apply pw_below_drewN | apply below_drew1 | refine below_set ?_ GE182.out) | exact HB.out)⟩

/-! ### impl_models: function 14 (by hand) -/
set_option maxHeartbeats 40000000 in
set_option maxRecDepth 100000 in
theorem impl_models.visit.calls (x n : Int) (g : Nat) (w : World) (hg : w.heap[g]? = some (.cells #[.int .i64 n] 3 (0, 0))) :
    Calls Try.prog 15 #[.int .i64 x, .pointer (some ⟨g, 0, none⟩)] w fun e w' => e = .returned (.bool true) ∧ w' = w.setCell ⟨g, 0, none⟩ (.int .i64 (wrap64 (n + 1))) := by
  have hc := (blk_cell hg 0).trans rfl
  have hf := blk_frozen hg 0
  go_enter Try.func15, Try.ntmps15
  go_wp2
  go_ret
  exact ⟨rfl, rfl⟩
def impl_models.T0 : Bool × List (List Nat × List Nat) := (true, [([], []), ([0], [0]), ([1, 1], [1]), ([], []), ([3], [3]), ([4, 4], [4]), ([2, 0, 1, 2], [2]), ([5, 6, 0, 1, 2, 3, 4, 5, 6], [5])])
def impl_models.B0 : List Nat := [0, 1, 3, 0, 8, 24, 7, 127]
theorem impl_models.tab0 : rtab .any (opsOf Try.f14 0) = impl_models.T0 := by kernel_rfl
theorem impl_models.bits0 : waitsOk impl_models.T0.2 impl_models.B0 = true := by kernel_rfl
def impl_models.T8 : Bool × List (List Nat × List Nat) := (true, [([], []), ([], []), ([0, 1], [0, 1]), ([2], [2]), ([], []), ([4], [4]), ([5], [5]), ([3, 6], [3, 6]), ([0, 1, 0, 1, 2, 3, 4, 5, 6, 7], [0, 1]), ([8, 7, 0, 1, 2, 3, 4, 5, 6, 7], [7, 8])])
def impl_models.B8 : List Nat := [0, 0, 3, 7, 0, 16, 48, 127, 255, 511]
theorem impl_models.tab8 : rtab .any (opsOf Try.f14 8) = impl_models.T8 := by kernel_rfl
theorem impl_models.bits8 : waitsOk impl_models.T8.2 impl_models.B8 = true := by kernel_rfl
def impl_models.T9 : Bool × List (List Nat × List Nat) := (true, [([], []), ([], []), ([0, 1], [0, 1]), ([2], [2]), ([], []), ([4], [4]), ([5], [5]), ([6], [6]), ([3, 7], [3, 7]), ([0, 1, 0, 1, 2, 3, 4, 5, 6, 7, 8], [0, 1]), ([9, 8, 0, 1, 2, 3, 4, 5, 6, 7, 8], [8, 9])])
def impl_models.B9 : List Nat := [0, 0, 3, 7, 0, 16, 48, 112, 255, 511, 1023]
theorem impl_models.tab9 : rtab .any (opsOf Try.f14 9) = impl_models.T9 := by kernel_rfl
theorem impl_models.bits9 : waitsOk impl_models.T9.2 impl_models.B9 = true := by kernel_rfl
def impl_models.bitAt (j : Int) : Int := wrap64 (2 ^ j.toNat)
/-- What a literal of clause i adds to the two rows of bits. -/
def impl_models.lit (i : Nat) (s : List Int × List Int) (x : Int) : List Int × List Int := if x > 0 then (s.1.set i (Go.bits .or .i64 (s.1.getD i 0) (impl_models.bitAt (x - 1))), s.2) else (s.1, s.2.set i (Go.bits .or .i64 (s.2.getD i 0) (impl_models.bitAt (-x - 1))))
def impl_models.all (l : List (List Int)) : Nat → List Int × List Int
  | 0 => (List.replicate l.length 0, List.replicate l.length 0)
  | i + 1 => (l.getD i []).foldl (impl_models.lit i) (impl_models.all l i)
/-- Is clause i false in a row. -/
def impl_models.bad (l : List (List Int)) (y : Int) (i : Nat) : Bool := (Go.bits .and .i64 y ((impl_models.all l l.length).1.getD i 0) == 0) && (Go.bits .and .i64 (Go.bits .xor .i64 (-1) y) ((impl_models.all l l.length).2.getD i 0) == 0)
def impl_models.cnt (l : List (List Int)) : Nat → Int
  | 0 => 0
  | y + 1 => if (List.range l.length).any (impl_models.bad l (y : Int)) = true then impl_models.cnt l y else wrap64 (impl_models.cnt l y + 1)
theorem impl_models.take_succ {σ : Type} (f : σ → Int → σ) (s : σ) (c : List Int) (y : Int) (h0 : 0 ≤ y) (h1 : y < c.length) : (c.take (y + 1).toNat).foldl f s = f ((c.take y.toNat).foldl f s) (c.getD y.toNat 0) := by
  have e : (y + 1).toNat = y.toNat + 1 := by omega
  have e2 : c.take (y.toNat + 1) = c.take y.toNat ++ [c.getD y.toNat 0] := by rw [List.take_succ_eq_append_getElem (by omega), List.getD_eq_getElem?_getD, List.getElem?_eq_getElem (by omega)]; rfl
  rw [e, e2, List.foldl_append]
  rfl
set_option maxHeartbeats 40000000 in
set_option maxRecDepth 100000 in
theorem impl_models.calls (a : Int) (A0 : Option Addr) (c0 : Nat) (l : List (List Int)) (g : Nat) (w0 w : World) (hb : Below w0.heap.size w0 w) (hr : Kd.C (Kd.slice 3 (Kd.int .i64)) w0 A0 l.length l) (hg0 : w0.heap.size ≤ g) (hg : w.heap[g]? = some (.cells #[.int .i64 (0)] 3 (0, 0))) (ha0 : 0 ≤ a) (ha1 : a ≤ 20) (hlen : l.length ≤ 2500) (hok : ∀ c ∈ l, c.length ≤ 1048576 ∧ ∀ x ∈ c, -20 ≤ x ∧ x ≤ 20 ∧ x ≠ 0) :
    Calls Try.prog 14 #[.int .i64 a, .slice A0 l.length c0, .func (.func 15) #[] #[.pointer (some ⟨g, 0, none⟩)]] w fun e w' => e = .returned (.tuple #[]) ∧ w'.heap[g]? = some (.cells #[.int .i64 (impl_models.cnt l (2 ^ a.toNat))] 3 (0, 0)) ∧ Below w0.heap.size w0 w' := by
  have HB := Aside0.mk hb
  have HR := Aside0.mk hr
  have HG0 := Aside0.mk hg0
  have BG := Aside0.mk hg
  have HOK := Aside0.mk hok
  obtain ⟨vals, hvals⟩ := Go.Proofs.YthphgkhmeobadacX.rows_vals hr
  have HV := Aside0.mk hvals
  clear hb hr hg0 hg hok hvals
  have LW := Aside0.mk (Nat.le_of_lt (Nat.lt_of_le_of_lt HG0.out (blk_lt BG.out)))
  go_enter Try.func14, Try.ntmps14
  go_step3
  go_wp2_with fail
  have HB2 := Aside0.mk (show Below w0.heap.size w0 w.drew from below_drew HB.out)
  have BG2 := Aside0.mk (show w.drew.heap[g]? = _ from BG.out)
  have LW2 := Aside0.mk (show w0.heap.size ≤ w.drew.heap.size from LW.out)
  clear HB BG LW
  have HB := HB2
  have BG := BG2
  have LW := LW2
  clear HB2 BG2 LW2
  refine start_ (n := 8) (S := fun w' => True) (ds := []) #[false, false, false, false, false, false, false, false] (by kernel_rfl) rfl rfl trivial (fun hHeld => ?_)
  refine with_tabW impl_models.tab0 impl_models.bits0 (fun HT_ HW_ => ?_)
  generalize w.drew = wz at BG HB LW hHeld ⊢
  refine pure_ (i := 0) (N := some 14) (v := ?_) (a' := ?_) #[true, false, false, false, false, false, false, false] rfl rfl (any_of HT_.out (by kernel_rfl)) (fun _ _ _ h => h) (Or.inl ⟨by rfl, ?_⟩) ?_ ?_
  rotate_left
  · intro w'
    go_simp
    with_reducible rfl
  rotate_left
  · simp only [Act.put, List.setIfInBounds_toArray, List.set_cons_zero, List.set_cons_succ, i64_w, i32_w]
    rfl
  refine pure_ (i := 1) (N := some 15) (v := ?_) (a' := ?_) #[true, true, false, false, false, false, false, false] rfl rfl (any_of HT_.out (by kernel_rfl)) (fun _ _ _ h => h) (Or.inl ⟨by rfl, ?_⟩) ?_ ?_
  rotate_left
  · intro w'
    go_simp
    with_reducible rfl
  rotate_left
  · simp only [Act.put, List.setIfInBounds_toArray, List.set_cons_zero, List.set_cons_succ, i64_w, i32_w]
    rfl
  refine pure_ (i := 3) (N := some 17) (v := ?_) (a' := ?_) #[true, true, false, true, false, false, false, false] rfl rfl (any_of HT_.out (by kernel_rfl)) (fun _ _ _ h => h) (Or.inl ⟨by rfl, ?_⟩) ?_ ?_
  rotate_left
  · intro w'
    go_simp
    with_reducible rfl
  rotate_left
  · simp only [Act.put, List.setIfInBounds_toArray, List.set_cons_zero, List.set_cons_succ, i64_w, i32_w]
    rfl
  refine pure_ (i := 4) (N := some 18) (v := ?_) (a' := ?_) #[true, true, false, true, true, false, false, false] rfl rfl (any_of HT_.out (by kernel_rfl)) (fun _ _ _ h => h) (Or.inl ⟨by rfl, ?_⟩) ?_ ?_
  rotate_left
  · intro w'
    go_simp
    with_reducible rfl
  rotate_left
  · simp only [Act.put, List.setIfInBounds_toArray, List.set_cons_zero, List.set_cons_succ, i64_w, i32_w]
    rfl
  refine join_ (σ := Value × Value) 1 #[true, true, true, true, true, true, true, false] (fun s => [(16, s.1), (19, s.2), (6, s.1)]) (fun s w' => ∃ bP bN, (Kd.int .i64).R 3 w' w0.heap.size (fun _ => True) s.1 (List.replicate l.length 0) ∧ (Kd.int .i64).R 3 w' w0.heap.size (fun _ => True) s.2 (List.replicate l.length 0) ∧ s.1.ownBlock = some bP ∧ s.2.ownBlock = some bN ∧ bP ≠ bN ∧ g < bP ∧ g < bN ∧ w'.heap[g]? = some (.cells #[.int .i64 (0)] 3 (0, 0)) ∧ Below w0.heap.size w0 w') ?_ ?_
  rotate_left
  · intro hCont
    refine two_ (i := 2) (j := 5) (Ni := some 16) (Nj := some 19) #[true, true, true, true, true, false, false, false] #[true, true, false, true, true, true, false, false] rfl rfl rfl rfl (two_of HT_.out (by kernel_rfl)) (by decide) (by decide) (fun K hK => ?_) (fun K hK => ?_)
    · skip
      refine Kd.R_make_step (Kd.int .i64) (w0 := w0) w0.heap.size 3 (by rfl) (N := 16) rfl 34 (.tmp 15) (.tmp 15) rfl (l.length : Int) rfl rfl Try.underlying34 (.int .i64 0) 8 info3 rfl (by decide) (by omega) 0 (ok := fun _ => True) (okp := fun _ => True) rfl (fun _ hk => hk) trivial (by omega) (by rw [Int.toNat_natCast]; omega) HB.out LW.out ?_
      intro vP w22 ho hb hg_ hn_
      rw [Int.toNat_natCast] at ho
      obtain ⟨bP, hb1_, hb2_⟩ := hn_
      have HP := Aside0.mk ho
      have OBP := Aside0.mk hb1_
      have GEP := Aside0.mk (show g < bP from Nat.lt_of_lt_of_le (blk_lt BG.out) hb2_)
      have n0_ := Aside0.mk ((hg_.block g (blk_lt BG.out) (by simp)).trans BG.out)
      have n2_ := Aside0.mk (Nat.le_trans LW.out hg_.size)
      have n1_ := Aside0.mk hb
      clear BG HB LW ho hb hg_ hb1_ hb2_
      have BG := n0_
      have HB := n1_
      have LW := n2_
      clear n0_ n1_ n2_
      refine hK.out _ _ trivial (fun hHeld => ?_)
      clear hK K
      refine norm_ (a' := ?_) ?_ ?_
      rotate_left
      · show Act.put _ (some 16) _ = _
        simp only [Act.put, List.setIfInBounds_toArray, List.set_cons_zero, List.set_cons_succ, i64_w, i32_w]
        rfl
      refine pure_ (i := 6) (N := some 6) (v := ?_) (a' := ?_) #[true, true, true, true, true, false, true, false] rfl rfl (any_of HT_.out (by kernel_rfl)) (fun _ _ _ h => h) (Or.inl ⟨by rfl, ?_⟩) ?_ ?_
      rotate_left
      · intro w'
        go_simp
        with_reducible rfl
      rotate_left
      · simp only [Act.put, List.setIfInBounds_toArray, List.set_cons_zero, List.set_cons_succ, i64_w, i32_w]
        rfl
      refine one_ (i := 5) (N := some 19) #[true, true, true, true, true, true, true, false] rfl rfl (one_of HT_.out (by kernel_rfl)) (by decide) (fun K hK => ?_)
      refine Kd.R_make_step (Kd.int .i64) (w0 := w0) w0.heap.size 3 (by rfl) (N := 19) rfl 34 (.tmp 18) (.tmp 18) rfl (l.length : Int) rfl rfl Try.underlying34 (.int .i64 0) 8 info3 rfl (by decide) (by omega) 0 (ok := fun _ => True) (okp := fun _ => True) rfl (fun _ hk => hk) trivial (by omega) (by rw [Int.toNat_natCast]; omega) HB.out LW.out ?_
      intro vN w25 ho hb hg_ hn_
      rw [Int.toNat_natCast] at ho
      obtain ⟨bN, hb1_, hb2_⟩ := hn_
      have HN := Aside0.mk ho
      have OBN := Aside0.mk hb1_
      have GEN := Aside0.mk (show g < bN from Nat.lt_of_lt_of_le (blk_lt BG.out) hb2_)
      have n0_ := Aside0.mk ((hg_.block g (blk_lt BG.out) (by simp)).trans BG.out)
      have n2_ := Aside0.mk (Nat.le_trans LW.out hg_.size)
      have NEB := Aside0.mk (show bP ≠ bN from by have hk_ := Kd.R_lt HP.out bP OBP.out; omega)
      have n3_ := Aside0.mk (Kd.R_grown2 HP.out rfl hg_ (fun k hk => by cases hk))
      clear HP
      have HP := n3_
      clear n3_
      have n1_ := Aside0.mk hb
      clear BG HB LW ho hb hg_ hb1_ hb2_
      have BG := n0_
      have HB := n1_
      have LW := n2_
      clear n0_ n1_ n2_
      refine hK.out _ _ trivial (fun hHeld => ?_)
      clear hK K
      refine norm_ (a' := ?_) ?_ ?_
      rotate_left
      · show Act.put _ (some 19) _ = _
        simp only [Act.put, List.setIfInBounds_toArray, List.set_cons_zero, List.set_cons_succ, i64_w, i32_w]
        rfl
      exact norm_ (by simp only [putAll, Act.put, List.setIfInBounds_toArray, List.set_cons_zero, List.set_cons_succ]) (hCont (vP, vN) _ ⟨bP, bN, HP.out, HN.out, OBP.out, OBN.out, NEB.out, GEP.out, GEN.out, BG.out, HB.out⟩)
    · skip
      refine Kd.R_make_step (Kd.int .i64) (w0 := w0) w0.heap.size 3 (by rfl) (N := 19) rfl 34 (.tmp 18) (.tmp 18) rfl (l.length : Int) rfl rfl Try.underlying34 (.int .i64 0) 8 info3 rfl (by decide) (by omega) 0 (ok := fun _ => True) (okp := fun _ => True) rfl (fun _ hk => hk) trivial (by omega) (by rw [Int.toNat_natCast]; omega) HB.out LW.out ?_
      intro vN w25 ho hb hg_ hn_
      rw [Int.toNat_natCast] at ho
      obtain ⟨bN, hb1_, hb2_⟩ := hn_
      have HN := Aside0.mk ho
      have OBN := Aside0.mk hb1_
      have GEN := Aside0.mk (show g < bN from Nat.lt_of_lt_of_le (blk_lt BG.out) hb2_)
      have n0_ := Aside0.mk ((hg_.block g (blk_lt BG.out) (by simp)).trans BG.out)
      have n2_ := Aside0.mk (Nat.le_trans LW.out hg_.size)
      have n1_ := Aside0.mk hb
      clear BG HB LW ho hb hg_ hb1_ hb2_
      have BG := n0_
      have HB := n1_
      have LW := n2_
      clear n0_ n1_ n2_
      refine hK.out _ _ trivial (fun hHeld => ?_)
      clear hK K
      refine norm_ (a' := ?_) ?_ ?_
      rotate_left
      · show Act.put _ (some 19) _ = _
        simp only [Act.put, List.setIfInBounds_toArray, List.set_cons_zero, List.set_cons_succ, i64_w, i32_w]
        rfl
      refine one_ (i := 2) (N := some 16) #[true, true, true, true, true, true, false, false] rfl rfl (one_of HT_.out (by kernel_rfl)) (by decide) (fun K hK => ?_)
      refine Kd.R_make_step (Kd.int .i64) (w0 := w0) w0.heap.size 3 (by rfl) (N := 16) rfl 34 (.tmp 15) (.tmp 15) rfl (l.length : Int) rfl rfl Try.underlying34 (.int .i64 0) 8 info3 rfl (by decide) (by omega) 0 (ok := fun _ => True) (okp := fun _ => True) rfl (fun _ hk => hk) trivial (by omega) (by rw [Int.toNat_natCast]; omega) HB.out LW.out ?_
      intro vP w22 ho hb hg_ hn_
      rw [Int.toNat_natCast] at ho
      obtain ⟨bP, hb1_, hb2_⟩ := hn_
      have HP := Aside0.mk ho
      have OBP := Aside0.mk hb1_
      have GEP := Aside0.mk (show g < bP from Nat.lt_of_lt_of_le (blk_lt BG.out) hb2_)
      have n0_ := Aside0.mk ((hg_.block g (blk_lt BG.out) (by simp)).trans BG.out)
      have n2_ := Aside0.mk (Nat.le_trans LW.out hg_.size)
      have NEB := Aside0.mk (show bP ≠ bN from by have hk_ := Kd.R_lt HN.out bN OBN.out; omega)
      have n3_ := Aside0.mk (Kd.R_grown2 HN.out rfl hg_ (fun k hk => by cases hk))
      clear HN
      have HN := n3_
      clear n3_
      have n1_ := Aside0.mk hb
      clear BG HB LW ho hb hg_ hb1_ hb2_
      have BG := n0_
      have HB := n1_
      have LW := n2_
      clear n0_ n1_ n2_
      refine hK.out _ _ trivial (fun hHeld => ?_)
      clear hK K
      refine norm_ (a' := ?_) ?_ ?_
      rotate_left
      · show Act.put _ (some 16) _ = _
        simp only [Act.put, List.setIfInBounds_toArray, List.set_cons_zero, List.set_cons_succ, i64_w, i32_w]
        rfl
      refine pure_ (i := 6) (N := some 6) (v := ?_) (a' := ?_) #[true, true, true, true, true, true, true, false] rfl rfl (any_of HT_.out (by kernel_rfl)) (fun _ _ _ h => h) (Or.inl ⟨by rfl, ?_⟩) ?_ ?_
      rotate_left
      · intro w'
        go_simp
        with_reducible rfl
      rotate_left
      · simp only [Act.put, List.setIfInBounds_toArray, List.set_cons_zero, List.set_cons_succ, i64_w, i32_w]
        rfl
      exact norm_ (by simp only [putAll, Act.put, List.setIfInBounds_toArray, List.set_cons_zero, List.set_cons_succ]) (hCont (vP, vN) _ ⟨bP, bN, HP.out, HN.out, OBP.out, OBN.out, NEB.out, GEP.out, GEN.out, BG.out, HB.out⟩)
  clear BG HB LW
  rintro ⟨vP, vN⟩ wj ⟨bP, bN, hp, hn, obp, obn, neb, gep, gen, bg, hb⟩
  simp only at hp hn obp obn
  obtain ⟨Ap, cp, rfl⟩ := Kd.R_slice hp
  obtain ⟨An, cn, rfl⟩ := Kd.R_slice hn
  simp only [List.length_replicate] at hp hn obp obn ⊢
  have HP := Aside0.mk (show Kd.R (Kd.int .i64) 3 wj w0.heap.size (fun k => some k ≠ (.slice An l.length cn : Value).ownBlock ∧ k ≠ g) (.slice Ap l.length cp) (List.replicate l.length 0) from Kd.R_reok rfl hp (fun k hk => by rw [obp] at hk; injection hk with hk; subst hk; exact ⟨by rw [obn]; intro e_; injection e_ with e_; exact neb e_, by omega⟩))
  have HN := Aside0.mk (show Kd.R (Kd.int .i64) 3 wj w0.heap.size (fun k => some k ≠ (.slice Ap l.length cp : Value).ownBlock ∧ k ≠ g) (.slice An l.length cn) (List.replicate l.length 0) from Kd.R_reok rfl hn (fun k hk => by rw [obn] at hk; injection hk with hk; subst hk; exact ⟨by rw [obp]; intro e_; injection e_ with e_; exact neb e_.symm, by omega⟩))
  have BG := Aside0.mk bg
  have HB := Aside0.mk hb
  clear hp hn obp obn neb gep gen bg hb
  have hHeld : True := trivial
  refine norm_ (a' := ?_) ?_ ?_
  rotate_left
  · simp only [putAll, Act.put, List.setIfInBounds_toArray, List.set_cons_zero, List.set_cons_succ]
    rfl
  refine pure_ (i := 7) (N := some 7) (v := ?_) (a' := ?_) #[true, true, true, true, true, true, true, true] rfl rfl (any_of HT_.out (by kernel_rfl)) (fun _ _ _ h => h) (Or.inl ⟨by rfl, ?_⟩) ?_ ?_
  rotate_left
  · intro w'
    go_simp
    with_reducible rfl
  rotate_left
  · simp only [Act.put, List.setIfInBounds_toArray, List.set_cons_zero, List.set_cons_succ, i64_w, i32_w]
    rfl
  refine done_ (done_of HT_.out (by kernel_rfl)) ?_
  (try go_wp2_with fail)
  go_loopg [22] (l.length + 1) (fun kq v22 wr => ∃ x : Int, v22 = .int .i64 x ∧ Aside0 (0 ≤ x ∧ x ≤ l.length ∧ (kq : Int) + x = l.length + 1) ∧ Aside0 (Kd.R (Kd.int .i64) 3 wr w0.heap.size (fun k => some k ≠ (.slice An l.length cn : Value).ownBlock ∧ k ≠ g) (.slice Ap l.length cp) ((impl_models.all l x.toNat).1)) ∧ Aside0 (Kd.R (Kd.int .i64) 3 wr w0.heap.size (fun k => some k ≠ (.slice Ap l.length cp : Value).ownBlock ∧ k ≠ g) (.slice An l.length cn) ((impl_models.all l x.toNat).2)) ∧ Aside0 (wr.heap[g]? = some (.cells #[.int .i64 (0)] 3 (0, 0))) ∧ Aside0 (Below w0.heap.size w0 wr))
  case atStart => exact ⟨0, rfl, ⟨by omega, by omega, by omega⟩, HP, HN, BG, HB⟩
  case round =>
    clear HP HN BG HB
    obtain ⟨x, rfl, ⟨h0, h1, hk⟩, HP, HN, BG, HB⟩ := hrel
    by_cases c3 : x < (l.length : Int)
    · skip
      have c3b0 : decide (x < (l.length : Int)) = true := decide_eq_true c3
      obtain ⟨⟨ad, e_, hx⟩, Ac, cc, ev, hcl, hC⟩ := HV.out x h0 c3
      cases e_
      rw [ev] at hx
      replace hx := (HB.out.cell (World.block_lt_of_cell? w0 _ hx)).trans hx
      have p_ := eq_true h0
      have q_ := eq_true c3
      obtain ⟨hcl1, hcl2⟩ := HOK.out (l.getD x.toNat []) (by rw [List.getD_eq_getElem?_getD, List.getElem?_eq_getElem (show x.toNat < l.length by omega)]; exact List.getElem_mem _)
      have HCK := Aside0.mk hcl2
      obtain ⟨c, hc⟩ : ∃ c, l.getD x.toNat [] = c := ⟨_, rfl⟩
      rw [hc] at hx hC hcl1 HCK
      have HC := Aside0.mk hC
      have HCE := Aside0.mk hc
      have HX := Aside0.mk (And.intro h0 (And.intro h1 hk))
      clear hC hcl hcl2 ev hc
      obtain ⟨gk1, hgk1⟩ : ∃ q : Nat, q = gk := ⟨_, rfl⟩
      go_wp2_with fail
      go_loopg [29] (c.length + 1) (fun kq v29 wr => ∃ y : Int, v29 = .int .i64 y ∧ Aside0 (0 ≤ y ∧ y ≤ c.length ∧ (kq : Int) + y = c.length + 1) ∧ Aside0 (Kd.R (Kd.int .i64) 3 wr w0.heap.size (fun k => some k ≠ (.slice An l.length cn : Value).ownBlock ∧ k ≠ g) (.slice Ap l.length cp) (((c.take y.toNat).foldl (impl_models.lit x.toNat) (impl_models.all l x.toNat)).1)) ∧ Aside0 (Kd.R (Kd.int .i64) 3 wr w0.heap.size (fun k => some k ≠ (.slice Ap l.length cp : Value).ownBlock ∧ k ≠ g) (.slice An l.length cn) (((c.take y.toNat).foldl (impl_models.lit x.toNat) (impl_models.all l x.toNat)).2)) ∧ Aside0 (wr.heap[g]? = some (.cells #[.int .i64 (0)] 3 (0, 0))) ∧ Aside0 (Below w0.heap.size w0 wr))
      case atStart => exact ⟨0, rfl, ⟨by omega, by omega, by omega⟩, HP, HN, BG, HB⟩
      case round =>
        clear HP HN BG HB hx p_ q_
        obtain ⟨y, rfl, ⟨g0, g1, gk_⟩, HP, HN, BG, HB⟩ := hrel
        by_cases c5 : y < (c.length : Int)
        · skip
          have c5b0 : decide (y < (c.length : Int)) = true := decide_eq_true c5
          obtain ⟨ad2, e_, hz⟩ := Go.Proofs.YthphgkhmeobadacX.ints_vals HC.out y g0 c5
          cases e_
          replace hz := (HB.out.cell (World.block_lt_of_cell? w0 _ hz)).trans hz
          have p_ := eq_true g0
          have q_ := eq_true c5
          have HY := Aside0.mk (And.intro g0 (And.intro g1 gk_))
          obtain ⟨z1, z2, z3⟩ := HCK.out (c.getD y.toNat 0) (by rw [List.getD_eq_getElem?_getD, List.getElem?_eq_getElem (show y.toNat < c.length by omega)]; exact List.getElem_mem _)
          obtain ⟨z, hzz⟩ : ∃ z, c.getD y.toNat 0 = z := ⟨_, rfl⟩
          rw [hzz] at hz z1 z2 z3
          have HZZ := Aside0.mk hzz
          clear hzz
          have hP1 := (Kd.R_reads' HP.out).1
          have hN1 := (Kd.R_reads' HN.out).1
          obtain ⟨gp, capp, ep, hbp, hlp, -⟩ := Kd.R_form HP.out (by omega)
          injection ep with ea en ec
          subst ea
          subst ec
          clear en
          obtain ⟨gn, capn, en_, hbn, hln, -⟩ := Kd.R_form HN.out (by omega)
          injection en_ with ea en ec
          subst ea
          subst ec
          clear en hP1 hN1
          have GPB := Aside0.mk hbp
          have GNB := Aside0.mk hbn
          have HXX := HX.out
          clear hbp hlp hbn hln
          have px := eq_true HXX.1
          have qx := eq_true c3
          by_cases c6 : z > 0
          · skip
            have c6b0 : decide (z > 0) = true := decide_eq_true c6
            have c6b1 : decide (0 < z) = true := c6b0
            obtain ⟨s, hs⟩ : ∃ s, z - 1 = s := ⟨_, rfl⟩
            have hs0 : 0 ≤ s := by omega
            have hs1 := eq_true hs0
            have hs2 : decide (0 ≤ s) = true := decide_eq_true hs0
            have hs3 : wrap64 s = s := by unfold wrap64; omega
            have hs4 : IntKind.i64.wrap s = s := (i64_w _).trans hs3
            have hw1 : wrap64 (z - 1) = s := by unfold wrap64; omega
            have hw2 : IntKind.i64.wrap (z - 1) = s := (i64_w _).trans hw1
            go_wp2_with fail
            have HPd := Aside0.mk (Kd.R_drew (w := wr) HP.out)
            have HNd := Aside0.mk (Kd.R_drew (w := wr) HN.out)
            have BGd := Aside0.mk (show wr.drew.heap[g]? = _ from BG.out)
            have HBd := Aside0.mk (show Below w0.heap.size w0 wr.drew from below_drew HB.out)
            clear HP HN BG HB hz
            have HP := HPd
            have HN := HNd
            have BG := BGd
            have HB := HBd
            clear HPd HNd BGd HBd
            refine start_ (n := 10) (S := fun w' => w'.cell? ⟨gp, x.toNat, none⟩ = some (.int .i64 (rd ((c.take y.toNat).foldl (impl_models.lit x.toNat) (impl_models.all l x.toNat)).1 x))) (ds := [9]) #[false, false, false, false, false, false, false, false, false, false] (by kernel_rfl) rfl rfl ((Kd.R_celln 0 HP.out x HXX.1 c3).1) (fun hHeld => ?_)
            refine with_tabW impl_models.tab8 impl_models.bits8 (fun HT_ HW_ => ?_)
            generalize wr.drew = wx at HP HN BG HB hHeld ⊢
            refine pure_ (i := 0) (N := some 35) (v := ?_) (a' := ?_) #[true, false, false, false, false, false, false, false, false, false] rfl rfl (any_of HT_.out (by kernel_rfl)) (fun _ _ _ h => h) (Or.inl ⟨by rfl, ?_⟩) ?_ ?_
            rotate_left
            · intro w'
              go_simp
              with_reducible rfl
            rotate_left
            · simp only [Act.put, List.setIfInBounds_toArray, List.set_cons_zero, List.set_cons_succ, i64_w, i32_w]
              rfl
            refine pure_ (i := 1) (N := some 36) (v := ?_) (a' := ?_) #[true, true, false, false, false, false, false, false, false, false] rfl rfl (any_of HT_.out (by kernel_rfl)) (fun _ _ _ h => h) (Or.inl ⟨by rfl, ?_⟩) ?_ ?_
            rotate_left
            · intro w'
              go_simp
              with_reducible rfl
            rotate_left
            · simp only [Act.put, List.setIfInBounds_toArray, List.set_cons_zero, List.set_cons_succ, i64_w, i32_w]
              rfl
            refine pure_ (i := 2) (N := some 37) (v := ?_) (a' := ?_) #[true, true, true, false, false, false, false, false, false, false] rfl rfl (any_of HT_.out (by kernel_rfl)) (fun _ _ _ h => h) (Or.inl ⟨by rfl, ?_⟩) ?_ ?_
            rotate_left
            · intro w'
              go_simp
              with_reducible rfl
            rotate_left
            · simp only [Act.put, List.setIfInBounds_toArray, List.set_cons_zero, List.set_cons_succ, i64_w, i32_w]
              rfl
            refine pure_ (i := 4) (N := some 39) (v := ?_) (a' := ?_) #[true, true, true, false, true, false, false, false, false, false] rfl rfl (any_of HT_.out (by kernel_rfl)) (fun _ _ _ h => h) (Or.inl ⟨by rfl, ?_⟩) ?_ ?_
            rotate_left
            · intro w'
              go_simp
              with_reducible rfl
            rotate_left
            · simp only [Act.put, List.setIfInBounds_toArray, List.set_cons_zero, List.set_cons_succ, i64_w, i32_w]
              rfl
            refine pure_ (i := 5) (N := some 40) (v := ?_) (a' := ?_) #[true, true, true, false, true, true, false, false, false, false] rfl rfl (any_of HT_.out (by kernel_rfl)) (fun _ _ _ h => h) (Or.inl ⟨by rfl, ?_⟩) ?_ ?_
            rotate_left
            · intro w'
              go_simp
              with_reducible rfl
            rotate_left
            · simp only [Act.put, List.setIfInBounds_toArray, List.set_cons_zero, List.set_cons_succ, i64_w, i32_w]
              rfl
            refine pure_ (i := 6) (N := some 41) (v := ?_) (a' := ?_) #[true, true, true, false, true, true, true, false, false, false] rfl rfl (any_of HT_.out (by kernel_rfl)) (fun _ _ _ h => h) (Or.inl ⟨by rfl, ?_⟩) ?_ ?_
            rotate_left
            · intro w'
              go_simp
              with_reducible rfl
            rotate_left
            · simp only [Act.put, List.setIfInBounds_toArray, List.set_cons_zero, List.set_cons_succ, i64_w, i32_w]
              rfl
            refine take_ (i := 3) (N := some 38) (v := ?_) (a' := ?_) #[true, true, true, true, true, true, true, false, false, false] rfl rfl (take_ofW HT_.out HW_.out (by kernel_rfl)) (fun _ _ _ h => h) (Or.inl ⟨by rfl, ?_⟩) hHeld ?_ ?_
            rotate_left
            · intro w' s0
              go_simp
              with_reducible rfl
            rotate_left
            · simp only [Act.put, List.setIfInBounds_toArray, List.set_cons_zero, List.set_cons_succ, i64_w, i32_w]
              rfl
            refine pure_ (i := 7) (N := some 42) (v := ?_) (a' := ?_) #[true, true, true, true, true, true, true, true, false, false] rfl rfl (any_of HT_.out (by kernel_rfl)) (fun _ _ _ h => h) (Or.inl ⟨by rfl, ?_⟩) ?_ ?_
            rotate_left
            · intro w'
              go_simp
              with_reducible rfl
            rotate_left
            · simp only [Act.put, List.setIfInBounds_toArray, List.set_cons_zero, List.set_cons_succ, i64_w, i32_w]
              rfl
            refine pure_ (i := 8) (N := some 43) (v := ?_) (a' := ?_) #[true, true, true, true, true, true, true, true, true, false] rfl rfl (any_of HT_.out (by kernel_rfl)) (fun _ _ _ h => h) (Or.inl ⟨by rfl, ?_⟩) ?_ ?_
            rotate_left
            · intro w'
              go_simp
              with_reducible rfl
            rotate_left
            · simp only [Act.put, List.setIfInBounds_toArray, List.set_cons_zero, List.set_cons_succ, i64_w, i32_w]
              rfl
            refine last_ (i := 9) (N := none) #[true, true, true, true, true, true, true, true, true, true] rfl rfl (one_of HT_.out (by kernel_rfl)) (by decide) (fun K hK => ?_)
            have hs30 := (Kd.R_celln 0 HP.out x HXX.1 c3).1
            have hfs30 := (Kd.R_celln 0 HP.out x HXX.1 c3).2
            refine skip_ (w1 := ?_) (by rfl) rfl ?_ ?_
            rotate_left
            · go_simp
              rfl
            refine hK.out _ _ ?_
            clear hK K
            refine done_ (done_of HT_.out (by kernel_rfl)) ?_
            go_wp2_with fail
            have hwy : wrap64 (y + 1) = y + 1 := by have := HY.out; unfold wrap64; omega
            go_roundg (gk - 1)
            case measure => have := HY.out; omega
            case rel =>
              have eq_ := impl_models.take_succ (impl_models.lit x.toNat) (impl_models.all l x.toNat) c y HY.out.1 c5
              rw [HZZ.out] at eq_
              have eq2 : impl_models.lit x.toNat ((c.take y.toNat).foldl (impl_models.lit x.toNat) (impl_models.all l x.toNat)) z = (((c.take y.toNat).foldl (impl_models.lit x.toNat) (impl_models.all l x.toNat)).1.set x.toNat (Go.bits .or .i64 (((c.take y.toNat).foldl (impl_models.lit x.toNat) (impl_models.all l x.toNat)).1.getD x.toNat 0) (impl_models.bitAt (z - 1))), ((c.take y.toNat).foldl (impl_models.lit x.toNat) (impl_models.all l x.toNat)).2) := by unfold impl_models.lit; rw [if_pos c6]
              rw [eq2] at eq_
              rw [hs] at eq_
              refine ⟨y + 1, (by (try rw [hwy]); rfl), ⟨by have := HY.out; omega, by have := HY.out; omega, by have := HY.out; omega⟩, ⟨?_⟩, ⟨?_⟩, ⟨blk_far BG.out (fun e_ => (HP.out.1 gp rfl).2 e_.symm) _⟩, ⟨below_set HB.out GPB.out⟩⟩
              · rw [eq_]
                exact Kd.R_putn HP.out x (Go.bits .or .i64 (rd ((c.take y.toNat).foldl (impl_models.lit x.toNat) (impl_models.all l x.toNat)).1 x) (wrap64 (2 ^ s.toNat)))
              · rw [eq_]
                exact Kd.R_far HN.out (fun k hk e => hk.1 (by rw [e]; rfl)) _
          · skip
            have c6b0 : decide (z > 0) = false := decide_eq_false c6
            have c6b1 : decide (0 < z) = false := c6b0
            obtain ⟨s, hs⟩ : ∃ s, -z - 1 = s := ⟨_, rfl⟩
            have hs0 : 0 ≤ s := by omega
            have hs1 := eq_true hs0
            have hs2 : decide (0 ≤ s) = true := decide_eq_true hs0
            have hs3 : wrap64 s = s := by unfold wrap64; omega
            have hs4 : IntKind.i64.wrap s = s := (i64_w _).trans hs3
            have hw0 : wrap64 (-z) = -z := by unfold wrap64; omega
            have hw00 : IntKind.i64.wrap (-z) = -z := (i64_w _).trans hw0
            have hw1 : wrap64 (-z - 1) = s := by unfold wrap64; omega
            have hw2 : IntKind.i64.wrap (-z - 1) = s := (i64_w _).trans hw1
            go_wp2_with fail
            have HPd := Aside0.mk (Kd.R_drew (w := wr) HP.out)
            have HNd := Aside0.mk (Kd.R_drew (w := wr) HN.out)
            have BGd := Aside0.mk (show wr.drew.heap[g]? = _ from BG.out)
            have HBd := Aside0.mk (show Below w0.heap.size w0 wr.drew from below_drew HB.out)
            clear HP HN BG HB hz
            have HP := HPd
            have HN := HNd
            have BG := BGd
            have HB := HBd
            clear HPd HNd BGd HBd
            refine start_ (n := 11) (S := fun w' => w'.cell? ⟨gn, x.toNat, none⟩ = some (.int .i64 (rd ((c.take y.toNat).foldl (impl_models.lit x.toNat) (impl_models.all l x.toNat)).2 x))) (ds := [10]) #[false, false, false, false, false, false, false, false, false, false, false] (by kernel_rfl) rfl rfl ((Kd.R_celln 0 HN.out x HXX.1 c3).1) (fun hHeld => ?_)
            refine with_tabW impl_models.tab9 impl_models.bits9 (fun HT_ HW_ => ?_)
            generalize wr.drew = wx at HP HN BG HB hHeld ⊢
            refine pure_ (i := 0) (N := some 44) (v := ?_) (a' := ?_) #[true, false, false, false, false, false, false, false, false, false, false] rfl rfl (any_of HT_.out (by kernel_rfl)) (fun _ _ _ h => h) (Or.inl ⟨by rfl, ?_⟩) ?_ ?_
            rotate_left
            · intro w'
              go_simp
              with_reducible rfl
            rotate_left
            · simp only [Act.put, List.setIfInBounds_toArray, List.set_cons_zero, List.set_cons_succ, i64_w, i32_w]
              rfl
            refine pure_ (i := 1) (N := some 45) (v := ?_) (a' := ?_) #[true, true, false, false, false, false, false, false, false, false, false] rfl rfl (any_of HT_.out (by kernel_rfl)) (fun _ _ _ h => h) (Or.inl ⟨by rfl, ?_⟩) ?_ ?_
            rotate_left
            · intro w'
              go_simp
              with_reducible rfl
            rotate_left
            · simp only [Act.put, List.setIfInBounds_toArray, List.set_cons_zero, List.set_cons_succ, i64_w, i32_w]
              rfl
            refine pure_ (i := 2) (N := some 46) (v := ?_) (a' := ?_) #[true, true, true, false, false, false, false, false, false, false, false] rfl rfl (any_of HT_.out (by kernel_rfl)) (fun _ _ _ h => h) (Or.inl ⟨by rfl, ?_⟩) ?_ ?_
            rotate_left
            · intro w'
              go_simp
              with_reducible rfl
            rotate_left
            · simp only [Act.put, List.setIfInBounds_toArray, List.set_cons_zero, List.set_cons_succ, i64_w, i32_w]
              rfl
            refine pure_ (i := 4) (N := some 48) (v := ?_) (a' := ?_) #[true, true, true, false, true, false, false, false, false, false, false] rfl rfl (any_of HT_.out (by kernel_rfl)) (fun _ _ _ h => h) (Or.inl ⟨by rfl, ?_⟩) ?_ ?_
            rotate_left
            · intro w'
              go_simp
              with_reducible rfl
            rotate_left
            · simp only [Act.put, List.setIfInBounds_toArray, List.set_cons_zero, List.set_cons_succ, i64_w, i32_w]
              rfl
            refine pure_ (i := 5) (N := some 49) (v := ?_) (a' := ?_) #[true, true, true, false, true, true, false, false, false, false, false] rfl rfl (any_of HT_.out (by kernel_rfl)) (fun _ _ _ h => h) (Or.inl ⟨by rfl, ?_⟩) ?_ ?_
            rotate_left
            · intro w'
              go_simp
              with_reducible rfl
            rotate_left
            · simp only [Act.put, List.setIfInBounds_toArray, List.set_cons_zero, List.set_cons_succ, i64_w, i32_w]
              rfl
            refine pure_ (i := 6) (N := some 50) (v := ?_) (a' := ?_) #[true, true, true, false, true, true, true, false, false, false, false] rfl rfl (any_of HT_.out (by kernel_rfl)) (fun _ _ _ h => h) (Or.inl ⟨by rfl, ?_⟩) ?_ ?_
            rotate_left
            · intro w'
              go_simp
              with_reducible rfl
            rotate_left
            · simp only [Act.put, List.setIfInBounds_toArray, List.set_cons_zero, List.set_cons_succ, i64_w, i32_w]
              rfl
            refine pure_ (i := 7) (N := some 51) (v := ?_) (a' := ?_) #[true, true, true, false, true, true, true, true, false, false, false] rfl rfl (any_of HT_.out (by kernel_rfl)) (fun _ _ _ h => h) (Or.inl ⟨by rfl, ?_⟩) ?_ ?_
            rotate_left
            · intro w'
              go_simp
              with_reducible rfl
            rotate_left
            · simp only [Act.put, List.setIfInBounds_toArray, List.set_cons_zero, List.set_cons_succ, i64_w, i32_w]
              rfl
            refine take_ (i := 3) (N := some 47) (v := ?_) (a' := ?_) #[true, true, true, true, true, true, true, true, false, false, false] rfl rfl (take_ofW HT_.out HW_.out (by kernel_rfl)) (fun _ _ _ h => h) (Or.inl ⟨by rfl, ?_⟩) hHeld ?_ ?_
            rotate_left
            · intro w' s0
              go_simp
              with_reducible rfl
            rotate_left
            · simp only [Act.put, List.setIfInBounds_toArray, List.set_cons_zero, List.set_cons_succ, i64_w, i32_w]
              rfl
            refine pure_ (i := 8) (N := some 52) (v := ?_) (a' := ?_) #[true, true, true, true, true, true, true, true, true, false, false] rfl rfl (any_of HT_.out (by kernel_rfl)) (fun _ _ _ h => h) (Or.inl ⟨by rfl, ?_⟩) ?_ ?_
            rotate_left
            · intro w'
              go_simp
              with_reducible rfl
            rotate_left
            · simp only [Act.put, List.setIfInBounds_toArray, List.set_cons_zero, List.set_cons_succ, i64_w, i32_w]
              rfl
            refine pure_ (i := 9) (N := some 53) (v := ?_) (a' := ?_) #[true, true, true, true, true, true, true, true, true, true, false] rfl rfl (any_of HT_.out (by kernel_rfl)) (fun _ _ _ h => h) (Or.inl ⟨by rfl, ?_⟩) ?_ ?_
            rotate_left
            · intro w'
              go_simp
              with_reducible rfl
            rotate_left
            · simp only [Act.put, List.setIfInBounds_toArray, List.set_cons_zero, List.set_cons_succ, i64_w, i32_w]
              rfl
            refine last_ (i := 10) (N := none) #[true, true, true, true, true, true, true, true, true, true, true] rfl rfl (one_of HT_.out (by kernel_rfl)) (by decide) (fun K hK => ?_)
            have hs30 := (Kd.R_celln 0 HN.out x HXX.1 c3).1
            have hfs30 := (Kd.R_celln 0 HN.out x HXX.1 c3).2
            refine skip_ (w1 := ?_) (by rfl) rfl ?_ ?_
            rotate_left
            · go_simp
              rfl
            refine hK.out _ _ ?_
            clear hK K
            refine done_ (done_of HT_.out (by kernel_rfl)) ?_
            go_wp2_with fail
            have hwy : wrap64 (y + 1) = y + 1 := by have := HY.out; unfold wrap64; omega
            go_roundg (gk - 1)
            case measure => have := HY.out; omega
            case rel =>
              have eq_ := impl_models.take_succ (impl_models.lit x.toNat) (impl_models.all l x.toNat) c y HY.out.1 c5
              rw [HZZ.out] at eq_
              have eq2 : impl_models.lit x.toNat ((c.take y.toNat).foldl (impl_models.lit x.toNat) (impl_models.all l x.toNat)) z = (((c.take y.toNat).foldl (impl_models.lit x.toNat) (impl_models.all l x.toNat)).1, ((c.take y.toNat).foldl (impl_models.lit x.toNat) (impl_models.all l x.toNat)).2.set x.toNat (Go.bits .or .i64 (((c.take y.toNat).foldl (impl_models.lit x.toNat) (impl_models.all l x.toNat)).2.getD x.toNat 0) (impl_models.bitAt (-z - 1)))) := by unfold impl_models.lit; rw [if_neg (show ¬ z > 0 by omega)]
              rw [eq2] at eq_
              rw [hs] at eq_
              refine ⟨y + 1, (by (try rw [hwy]); rfl), ⟨by have := HY.out; omega, by have := HY.out; omega, by have := HY.out; omega⟩, ⟨?_⟩, ⟨?_⟩, ⟨blk_far BG.out (fun e_ => (HN.out.1 gn rfl).2 e_.symm) _⟩, ⟨below_set HB.out GNB.out⟩⟩
              · rw [eq_]
                exact Kd.R_far HP.out (fun k hk e => hk.1 (by rw [e]; rfl)) _
              · rw [eq_]
                exact Kd.R_putn HN.out x (Go.bits .or .i64 (rd ((c.take y.toNat).foldl (impl_models.lit x.toNat) (impl_models.all l x.toNat)).2 x) (wrap64 (2 ^ s.toNat)))
        · skip
          have c5b0 : decide (y < (c.length : Int)) = false := decide_eq_false c5
          have hwx : wrap64 (x + 1) = x + 1 := by have := HX.out; unfold wrap64; omega
          have ey : c.take y.toNat = c := List.take_of_length_le (by omega)
          rw [ey] at HP HN
          go_wp2_with fail
          go_roundg (gk1 - 1)
          case measure => have := HX.out; omega
          case rel =>
            have e1 : (x + 1).toNat = x.toNat + 1 := by have := HX.out; omega
            have e2 : impl_models.all l (x + 1).toNat = c.foldl (impl_models.lit x.toNat) (impl_models.all l x.toNat) := by rw [e1, ← HCE.out]; rfl
            refine ⟨x + 1, (by (try rw [hwx]); rfl), ⟨by have := HX.out; omega, by have := HX.out; omega, by have := HX.out; omega⟩, ?_, ?_, BG, HB⟩
            · rw [e2]; exact HP
            · rw [e2]; exact HN
    · skip
      have c3b0 : decide (x < (l.length : Int)) = false := decide_eq_false c3
      have ex : x.toNat = l.length := by omega
      rw [ex] at HP HN
      clear c3 hk h0 h1
      obtain ⟨R, hR⟩ : ∃ R : Nat, R = 2 ^ a.toNat := ⟨_, rfl⟩
      have hR2 : R ≤ 1048576 := by rw [hR]; exact Nat.le_trans (Nat.pow_le_pow_right (by decide) (show a.toNat ≤ 20 by omega)) (by decide)
      have hR3 : wrap64 (2 ^ a.toNat) = (R : Int) := by rw [show ((2 : Int) ^ a.toNat) = (R : Int) by rw [hR]; simp]; unfold wrap64; omega
      have hR4 : IntKind.i64.wrap (2 ^ a.toNat) = (R : Int) := (i64_w _).trans hR3
      have HRR := Aside0.mk hR
      clear hR
      have ha2 := eq_true ha0
      have ha3 : decide (0 ≤ a) = true := decide_eq_true ha0
      go_wp2_with fail
      clear c3b0
      go_step3
      go_wp2_with fail
      go_loopg [58] (R + 1) (fun kq v58 wr => ∃ y : Int, v58 = .int .i64 y ∧ Aside0 (0 ≤ y ∧ y ≤ R ∧ (kq : Int) + y = R + 1) ∧ Aside0 (Kd.R (Kd.int .i64) 3 wr w0.heap.size (fun k => some k ≠ (.slice An l.length cn : Value).ownBlock ∧ k ≠ g) (.slice Ap l.length cp) ((impl_models.all l l.length).1)) ∧ Aside0 (Kd.R (Kd.int .i64) 3 wr w0.heap.size (fun k => some k ≠ (.slice Ap l.length cp : Value).ownBlock ∧ k ≠ g) (.slice An l.length cn) ((impl_models.all l l.length).2)) ∧ Aside0 (wr.heap[g]? = some (.cells #[.int .i64 (impl_models.cnt l y.toNat)] 3 (0, 0))) ∧ Aside0 (Below w0.heap.size w0 wr))
      case atStart => exact ⟨0, rfl, ⟨by omega, by omega, by omega⟩, HP, HN, BG, HB⟩
      case round =>
        clear HP HN BG HB
        obtain ⟨y, rfl, ⟨g0, g1, gk_⟩, HP, HN, BG, HB⟩ := hrel
        by_cases d3 : y < (R : Int)
        · skip
          have d3b0 : decide (y < (R : Int)) = true := decide_eq_true d3
          have HY := Aside0.mk (And.intro g0 (And.intro g1 gk_))
          obtain ⟨gk1, hgk1⟩ : ∃ q : Nat, q = gk := ⟨_, rfl⟩
          have hwy : wrap64 (y + 1) = y + 1 := by unfold wrap64; omega
          have ey1 : (y + 1).toNat = y.toNat + 1 := by omega
          go_wp2_with fail
          go_loopg [63] (l.length + 1) (fun kq v63 wr => ∃ x : Int, v63 = .int .i64 x ∧ Aside0 (0 ≤ x ∧ x ≤ l.length ∧ (kq : Int) + x = l.length + 1) ∧ Aside0 (∀ i : Nat, (i : Int) < x → impl_models.bad l y i = false) ∧ Aside0 (Kd.R (Kd.int .i64) 3 wr w0.heap.size (fun k => some k ≠ (.slice An l.length cn : Value).ownBlock ∧ k ≠ g) (.slice Ap l.length cp) ((impl_models.all l l.length).1)) ∧ Aside0 (Kd.R (Kd.int .i64) 3 wr w0.heap.size (fun k => some k ≠ (.slice Ap l.length cp : Value).ownBlock ∧ k ≠ g) (.slice An l.length cn) ((impl_models.all l l.length).2)) ∧ Aside0 (wr.heap[g]? = some (.cells #[.int .i64 (impl_models.cnt l y.toNat)] 3 (0, 0))) ∧ Aside0 (Below w0.heap.size w0 wr))
          case atStart => exact ⟨0, rfl, ⟨by omega, by omega, by omega⟩, ⟨fun i hi => by omega⟩, HP, HN, BG, HB⟩
          case round =>
            clear HP HN BG HB
            obtain ⟨x, rfl, ⟨h0, h1, hk⟩, HF, HP, HN, BG, HB⟩ := hrel
            by_cases c3 : x < (l.length : Int)
            · skip
              have c3b0 : decide (x < (l.length : Int)) = true := decide_eq_true c3
              have HX := Aside0.mk (And.intro h0 (And.intro h1 hk))
              have hP1 := (Kd.R_reads' HP.out).1
              have hN1 := (Kd.R_reads' HN.out).1
              obtain ⟨gp, capp, ep, -, -, -⟩ := Kd.R_form HP.out (by omega)
              injection ep with ea en ec
              subst ea
              subst ec
              clear en
              obtain ⟨gn, capn, en_, -, -, -⟩ := Kd.R_form HN.out (by omega)
              injection en_ with ea en ec
              subst ea
              subst ec
              clear en hP1 hN1
              have hp0 : wr.cell? ⟨gp, x.toNat, none⟩ = some (.int .i64 (rd (impl_models.all l l.length).1 x)) := (Kd.R_celln 0 HP.out x h0 c3).1
              have hn0 : wr.cell? ⟨gn, x.toNat, none⟩ = some (.int .i64 (rd (impl_models.all l l.length).2 x)) := (Kd.R_celln 0 HN.out x h0 c3).1
              have px := eq_true h0
              have qx := eq_true c3
              have hwx : wrap64 (x + 1) = x + 1 := by unfold wrap64; omega
              have hbad : impl_models.bad l y x.toNat = ((Go.bits .and .i64 y (rd (impl_models.all l l.length).1 x) == 0) && (Go.bits .and .i64 (Go.bits .xor .i64 (-1) y) (rd (impl_models.all l l.length).2 x) == 0)) := rfl
              cases b1 : (Go.bits .and .i64 y (rd (impl_models.all l l.length).1 x) == 0) with
              | false =>
                have HBD := Aside0.mk (show impl_models.bad l y x.toNat = false by rw [hbad, b1, Bool.false_and])
                clear hbad
                go_wp2_with fail
                go_roundg (gk - 1)
                case measure => have := HX.out; omega
                case rel =>
                  refine ⟨x + 1, (by (try rw [hwx]); rfl), ⟨by have := HX.out; omega, by have := HX.out; omega, by have := HX.out; omega⟩, ⟨fun i hi => ?_⟩, HP, HN, BG, HB⟩
                  by_cases e : (i : Int) < x
                  · exact HF.out i e
                  · have e2 : i = x.toNat := by omega
                    rw [e2, HBD.out]
              | true =>
                cases b2 : (Go.bits .and .i64 (Go.bits .xor .i64 (-1) y) (rd (impl_models.all l l.length).2 x) == 0) with
                | false =>
                  have HBD := Aside0.mk (show impl_models.bad l y x.toNat = false by rw [hbad, b1, b2, Bool.true_and])
                  clear hbad
                  have b2f : (Go.bits .and .i64 (Go.bits .xor .i64 (if IntKind.i64.signed = true then -1 else 9223372036854775807) y) (rd (impl_models.all l l.length).2 x) == 0) = false := b2
                  go_wp2_with fail
                  go_roundg (gk - 1)
                  case measure => have := HX.out; omega
                  case rel =>
                    refine ⟨x + 1, (by (try rw [hwx]); rfl), ⟨by have := HX.out; omega, by have := HX.out; omega, by have := HX.out; omega⟩, ⟨fun i hi => ?_⟩, HP, HN, BG, HB⟩
                    by_cases e : (i : Int) < x
                    · exact HF.out i e
                    · have e2 : i = x.toNat := by omega
                      rw [e2, HBD.out]
                | true =>
                  have HBD := Aside0.mk (show impl_models.bad l y x.toNat = true by rw [hbad, b1, b2, Bool.true_and])
                  clear hbad
                  have b2f : (Go.bits .and .i64 (Go.bits .xor .i64 (if IntKind.i64.signed = true then -1 else 9223372036854775807) y) (rd (impl_models.all l l.length).2 x) == 0) = true := b2
                  go_wp2_with fail
                  go_roundg (gk1 - 1)
                  case measure => have := HY.out; omega
                  case rel =>
                    have hc_ : impl_models.cnt l (y + 1).toNat = impl_models.cnt l y.toNat := by rw [ey1, impl_models.cnt, if_pos (List.any_eq_true.2 ⟨x.toNat, List.mem_range.2 (by have := HX.out; omega), by rw [Int.toNat_of_nonneg HY.out.1]; exact HBD.out⟩)]
                    refine ⟨y + 1, (by (try rw [hwy]); rfl), ⟨by have := HY.out; omega, by have := HY.out; omega, by have := HY.out; omega⟩, HP, HN, ⟨?_⟩, HB⟩
                    rw [hc_]; exact BG.out
            · skip
              have c3b0 : decide (x < (l.length : Int)) = false := decide_eq_false c3
              have HX := Aside0.mk (And.intro h0 (And.intro h1 hk))
              have HGP := Aside0.mk HP.out.1
              have HGN := Aside0.mk HN.out.1
              go_wp2_with (first | (go_at_call 15; with_reducible refine (impl_models.visit.calls y (impl_models.cnt l y.toNat) g _ BG.out).mono ?_; rintro e w9 ⟨rfl, hw9⟩; have HW := Aside0.mk hw9; clear hw9))
              go_roundg (gk1 - 1)
              case measure => have := HY.out; omega
              case rel =>
                have hc_ : impl_models.cnt l (y + 1).toNat = wrap64 (impl_models.cnt l y.toNat + 1) := by rw [ey1, impl_models.cnt, if_neg (fun h_ => by obtain ⟨i, hi, hb_⟩ := List.any_eq_true.1 h_; rw [Int.toNat_of_nonneg HY.out.1] at hb_; have := HF.out i (by have := List.mem_range.1 hi; omega); rw [this] at hb_; cases hb_)]
                refine ⟨y + 1, (by (try rw [hwy]); rfl), ⟨by have := HY.out; omega, by have := HY.out; omega, by have := HY.out; omega⟩, ⟨?_⟩, ⟨?_⟩, ⟨?_⟩, ⟨?_⟩⟩
                · rw [HW.out]; exact Kd.R_far HP.out (fun k hk_ => hk_.2) _
                · rw [HW.out]; exact Kd.R_far HN.out (fun k hk_ => hk_.2) _
                · rw [HW.out, hc_]; exact blk_put (cs := #[.int .i64 (impl_models.cnt l y.toNat)]) BG.out 0 _ rfl
                · rw [HW.out]; exact below_set HB.out HG0.out
        · skip
          have d3b0 : decide (y < (R : Int)) = false := decide_eq_false d3
          have ey : y.toNat = 2 ^ a.toNat := by rw [← HRR.out]; omega
          rw [ey] at BG
          go_wp2_with fail
          go_end0
          exact ⟨rfl, BG.out, HB.out⟩

-- NOT PRINTED: function 15 (impl_CountModels_1)

end Go.Proofs.Ythphgkhmeobadac.XFnExactCountModels
