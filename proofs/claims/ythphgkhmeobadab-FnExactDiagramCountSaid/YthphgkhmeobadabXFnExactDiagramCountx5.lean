/- Printed by a program of this session out of the translation: the Go functions that a law uses as plain Lean functions, with the proofs of their calls, or the law's row.
Conditions: those that each theorem states. -/
import Derived.Test.YthphgkhmeobadabXFnExactDiagramCountx0
import Derived.Test.YthphgkhmeobadabXFnExactDiagramCountx4
namespace Go.Proofs.Ythphgkhmeobadab.XFnExactDiagramCount
open Go.RowKit Go.Proofs.YthphgkhmeobadabW.PrintWords Go.Proofs.YthphgkhmeobadabW.PrintLast Go.Proofs.YthphgkhmeobadabW.PrintMore
attribute [local go_sem] max2_int min2_int max_two min_two max_three min_three max_four min_four   -- for this text's walks alone
set_option linter.unusedVariables false
set_option linter.unusedSimpArgs false

/-! ### impl_DiagramValid: function 27 (by hand) -/
theorem impl_DiagramValid.laid : laidOutB Try.prog = true := by kernel_rfl
theorem impl_DiagramValid.keyed : Go.Maps.Keyed Try.prog 85 := Go.Maps.Keyed.of_law (deep_law_laid impl_DiagramValid.laid (m := 2) (by omega) (of_decide_eq_true (by kernel_rfl)) (by kernel_rfl) (by rw [Try.underlying85]))
theorem impl_DiagramValid.formed (a b c : Value) : (Value.agg #[a, b, c]).formed Try.prog 85 = true := by
  have h : Try.prog.cellsOf 85 = 3 := by kernel_rfl
  simp [Value.formed, Try.underlying85, h]
theorem impl_DiagramValid.read (a b c : Int) (ha : (Lit.int .i64 a).wf = true) (hb : (Lit.int .i64 b).wf = true) (hc : (Lit.int .i64 c).wf = true) : ∃ l, keyOf Try.prog 85 (.agg #[.int .i64 a, .int .i64 b, .int .i64 c]) = some l := by
  have hk : Try.prog.keyType 85 = true := by kernel_rfl
  have h : Try.prog.cellsOf 85 = 3 := by kernel_rfl
  have h3 : Try.prog.cellsOf 3 = 1 := by kernel_rfl
  have hu3 := Try.underlying3
  obtain ⟨m, hm⟩ : ∃ m, Try.prog.types.size = m + 1 := ⟨Try.prog.types.size - 1, (Nat.sub_add_cancel (of_decide_eq_true (by kernel_rfl))).symm⟩
  unfold keyOf
  rw [Try.underlying85]
  simp only [hk, impl_DiagramValid.formed, Bool.and_true, if_true, hm]
  simp [Program.keyLits, Try.underlying85, h, h3, hu3, ha, hb, hc, Value.cells]
def impl_DiagramValid.enc (x : S85) : Value := .agg #[.int .i64 x.f0, .int .i64 x.f1, .int .i64 x.f2]
def impl_DiagramValid.key : Go.Proofs.YthphgkhmeobadabX.KeyK Try.prog 85 impl_DiagramValid.enc where
  law := impl_DiagramValid.keyed
  good x := (Lit.int .i64 x.f0).wf = true ∧ (Lit.int .i64 x.f1).wf = true ∧ (Lit.int .i64 x.f2).wf = true
  read x h := impl_DiagramValid.read x.f0 x.f1 x.f2 h.1 h.2.1 h.2.2
  inj {x y} h := by
    cases x
    cases y
    simp only [impl_DiagramValid.enc, Value.agg.injEq] at h
    simpa using h

def impl_DiagramValid.T7 : Bool × List (List Nat × List Nat) := (true, [([], []), ([0], [0]), ([], []), ([2], [2]), ([3], [3]), ([1, 4], [1, 4]), ([5], [5]), ([6, 5], [6]), ([7], [7]), ([8, 7], [7, 8]), ([7], [7]), ([10, 7], [7, 10]), ([9, 11, 7, 7], [7, 9, 11]), ([12, 7], [7, 12]), ([7, 13], [7, 13]), ([14, 12], [14]), ([15], [15]), ([16, 15], [15, 16]), ([15], [15]), ([18, 15], [15, 18]), ([17, 19, 15, 15], [15, 17, 19]), ([20, 15], [15, 20]), ([15, 21], [15, 21]), ([22, 20], [22]), ([23], [23]), ([24, 23], [23, 24]), ([23], [23]), ([26, 23], [23, 26]), ([25, 27, 23], [23, 25, 27]), ([23, 28], [23, 28]), ([29, 23], [29]), ([30], [30]), ([30], [30]), ([32, 30], [30, 32]), ([31, 33, 30, 30], [30, 31, 33]), ([30], [30]), ([35, 30], [30, 35]), ([34, 36, 30], [30, 34, 36]), ([30, 37], [30, 37]), ([38, 34], [38]), ([39], [39]), ([39], [39]), ([41, 39], [39, 41]), ([40, 42, 39, 39], [39, 40, 42]), ([39], [39]), ([44, 39], [39, 44]), ([43, 45, 39], [39, 43, 45]), ([39, 46], [39, 46]), ([47, 43], [47]), ([48], [48]), ([48], [48]), ([49, 50, 48], [48, 49, 50]), ([48, 51], [48, 51])])
def impl_DiagramValid.B7 : List Nat := [0, 1, 0, 4, 12, 31, 63, 127, 255, 511, 255, 1279, 4095, 8191, 16383, 32767, 65535, 131071, 65535, 327679, 1048575, 2097151, 4194303, 8388607, 16777215, 33554431, 16777215, 83886079, 268435455, 536870911, 1073741823, 2147483647, 2147483647, 6442450943, 17179869183, 2147483647, 36507222015, 137438953471, 274877906943, 549755813887, 1099511627775, 1099511627775, 3298534883327, 8796093022207, 1099511627775, 18691697672191, 70368744177663, 140737488355327, 281474976710655, 562949953421311, 562949953421311, 2251799813685247, 4503599627370495]
theorem impl_DiagramValid.tab7 : rtab .any (opsOf Try.f27 7) = impl_DiagramValid.T7 := by kernel_rfl
theorem impl_DiagramValid.bits7 : waitsOk impl_DiagramValid.T7.2 impl_DiagramValid.B7 = true := by kernel_rfl
def impl_DiagramValid.elem : Go.Proofs.YthphgkhmeobadabX.ElemK Try.prog 4 Value.bool false := Go.Proofs.YthphgkhmeobadabX.elemBool Try.underlying4 (fun w => by kernel_rfl)
def impl_DiagramValid.eqS (x y : S85) : Bool := decide (x.f0 = y.f0 ∧ x.f1 = y.f1 ∧ x.f2 = y.f2)
def impl_DiagramValid.F (l : List S85) (i : Nat) (y : S85) : Option Bool := if l.take i |>.any (impl_DiagramValid.eqS y) then some true else none
def impl_DiagramValid.ok (a0_0 : Int) (l0_1 : List (S85)) (x : Int) : Option (Bool) := (impl_in.f ((rd_T85 l0_1 x).f0) 0 (wrap64 (a0_0 - 1))).bind fun t1 => if t1 = true then ((impl_in.f ((rd_T85 l0_1 x).f1) 0 (wrap64 (x + 1))).bind fun t2 => if t2 = true then ((impl_in.f ((rd_T85 l0_1 x).f2) 0 (wrap64 (x + 1))).bind fun t3 => if t3 = true then (if ((rd_T85 l0_1 x).f1) = ((rd_T85 l0_1 x).f2) then some false else ((impl_Diagram_varAt.f a0_0 l0_1 ((rd_T85 l0_1 x).f1)).bind fun v1 => if v1 ≤ ((rd_T85 l0_1 x).f0) then some false else ((impl_Diagram_varAt.f a0_0 l0_1 ((rd_T85 l0_1 x).f2)).bind fun v2 => if v2 ≤ ((rd_T85 l0_1 x).f0) then some false else some (!(impl_DiagramValid.F l0_1 x.toNat (rd_T85 l0_1 x)).isSome)))) else some false) else some false) else some false
def impl_DiagramValid.go (a0_0 : Int) (l0_1 : List (S85)) : Nat → Int → Option (Bool)
  | 0, _ => some true
  | m + 1, x => (impl_DiagramValid.ok a0_0 l0_1 x).bind fun b => if b = true then impl_DiagramValid.go a0_0 l0_1 m (x + 1) else some false
def impl_DiagramValid.f (a0_0 : Int) (l0_1 : List (S85)) : Option (Bool) := (impl_in.f a0_0 0 12).bind fun t => if t = true then (if (l0_1.length : Int) > 2000 then some false else impl_DiagramValid.go a0_0 l0_1 l0_1.length 0) else some false
theorem impl_DiagramValid.cases {a0_0 : Int} {l0_1 : List (S85)} {x : Int} {b : Bool} (hok : impl_DiagramValid.ok a0_0 l0_1 x = some b) : (impl_in.f ((rd_T85 l0_1 x).f0) 0 (wrap64 (a0_0 - 1)) = some false ∧ b = false) ∨ (impl_in.f ((rd_T85 l0_1 x).f0) 0 (wrap64 (a0_0 - 1)) = some true ∧ impl_in.f ((rd_T85 l0_1 x).f1) 0 (wrap64 (x + 1)) = some false ∧ b = false) ∨ (impl_in.f ((rd_T85 l0_1 x).f0) 0 (wrap64 (a0_0 - 1)) = some true ∧ impl_in.f ((rd_T85 l0_1 x).f1) 0 (wrap64 (x + 1)) = some true ∧ impl_in.f ((rd_T85 l0_1 x).f2) 0 (wrap64 (x + 1)) = some false ∧ b = false) ∨ (impl_in.f ((rd_T85 l0_1 x).f0) 0 (wrap64 (a0_0 - 1)) = some true ∧ impl_in.f ((rd_T85 l0_1 x).f1) 0 (wrap64 (x + 1)) = some true ∧ impl_in.f ((rd_T85 l0_1 x).f2) 0 (wrap64 (x + 1)) = some true ∧ ((rd_T85 l0_1 x).f1) = ((rd_T85 l0_1 x).f2) ∧ b = false) ∨ (∃ v1, impl_in.f ((rd_T85 l0_1 x).f0) 0 (wrap64 (a0_0 - 1)) = some true ∧ impl_in.f ((rd_T85 l0_1 x).f1) 0 (wrap64 (x + 1)) = some true ∧ impl_in.f ((rd_T85 l0_1 x).f2) 0 (wrap64 (x + 1)) = some true ∧ ¬ ((rd_T85 l0_1 x).f1) = ((rd_T85 l0_1 x).f2) ∧ impl_Diagram_varAt.f a0_0 l0_1 ((rd_T85 l0_1 x).f1) = some v1 ∧ v1 ≤ ((rd_T85 l0_1 x).f0) ∧ b = false) ∨ (∃ v1 v2, impl_in.f ((rd_T85 l0_1 x).f0) 0 (wrap64 (a0_0 - 1)) = some true ∧ impl_in.f ((rd_T85 l0_1 x).f1) 0 (wrap64 (x + 1)) = some true ∧ impl_in.f ((rd_T85 l0_1 x).f2) 0 (wrap64 (x + 1)) = some true ∧ ¬ ((rd_T85 l0_1 x).f1) = ((rd_T85 l0_1 x).f2) ∧ impl_Diagram_varAt.f a0_0 l0_1 ((rd_T85 l0_1 x).f1) = some v1 ∧ ¬ v1 ≤ ((rd_T85 l0_1 x).f0) ∧ impl_Diagram_varAt.f a0_0 l0_1 ((rd_T85 l0_1 x).f2) = some v2 ∧ v2 ≤ ((rd_T85 l0_1 x).f0) ∧ b = false) ∨ (∃ v1 v2, impl_in.f ((rd_T85 l0_1 x).f0) 0 (wrap64 (a0_0 - 1)) = some true ∧ impl_in.f ((rd_T85 l0_1 x).f1) 0 (wrap64 (x + 1)) = some true ∧ impl_in.f ((rd_T85 l0_1 x).f2) 0 (wrap64 (x + 1)) = some true ∧ ¬ ((rd_T85 l0_1 x).f1) = ((rd_T85 l0_1 x).f2) ∧ impl_Diagram_varAt.f a0_0 l0_1 ((rd_T85 l0_1 x).f1) = some v1 ∧ ¬ v1 ≤ ((rd_T85 l0_1 x).f0) ∧ impl_Diagram_varAt.f a0_0 l0_1 ((rd_T85 l0_1 x).f2) = some v2 ∧ ¬ v2 ≤ ((rd_T85 l0_1 x).f0) ∧ b = !(impl_DiagramValid.F l0_1 x.toNat (rd_T85 l0_1 x)).isSome) := by
  unfold impl_DiagramValid.ok at hok
  obtain ⟨t1, ht1, hok⟩ := Option.bind_eq_some_iff.mp hok
  cases t1 with
  | false => rw [if_neg (by decide)] at hok; exact .inl ⟨ht1, (Option.some.inj hok).symm⟩
  | true =>
    rw [if_pos rfl] at hok
    obtain ⟨t2, ht2, hok⟩ := Option.bind_eq_some_iff.mp hok
    cases t2 with
    | false => rw [if_neg (by decide)] at hok; exact .inr (.inl ⟨ht1, ht2, (Option.some.inj hok).symm⟩)
    | true =>
      rw [if_pos rfl] at hok
      obtain ⟨t3, ht3, hok⟩ := Option.bind_eq_some_iff.mp hok
      cases t3 with
      | false => rw [if_neg (by decide)] at hok; exact .inr (.inr (.inl ⟨ht1, ht2, ht3, (Option.some.inj hok).symm⟩))
      | true =>
        rw [if_pos rfl] at hok
        by_cases h4 : ((rd_T85 l0_1 x).f1) = ((rd_T85 l0_1 x).f2)
        · rw [if_pos h4] at hok; exact .inr (.inr (.inr (.inl ⟨ht1, ht2, ht3, h4, (Option.some.inj hok).symm⟩)))
        · rw [if_neg h4] at hok
          obtain ⟨v1, hv1, hok⟩ := Option.bind_eq_some_iff.mp hok
          by_cases h5 : v1 ≤ ((rd_T85 l0_1 x).f0)
          · rw [if_pos h5] at hok; exact .inr (.inr (.inr (.inr (.inl ⟨v1, ht1, ht2, ht3, h4, hv1, h5, (Option.some.inj hok).symm⟩))))
          · rw [if_neg h5] at hok
            obtain ⟨v2, hv2, hok⟩ := Option.bind_eq_some_iff.mp hok
            by_cases h6 : v2 ≤ ((rd_T85 l0_1 x).f0)
            · rw [if_pos h6] at hok; exact .inr (.inr (.inr (.inr (.inr (.inl ⟨v1, v2, ht1, ht2, ht3, h4, hv1, h5, hv2, h6, (Option.some.inj hok).symm⟩)))))
            · rw [if_neg h6] at hok; exact .inr (.inr (.inr (.inr (.inr (.inr ⟨v1, v2, ht1, ht2, ht3, h4, hv1, h5, hv2, h6, (Option.some.inj hok).symm⟩)))))
theorem impl_DiagramValid.in_wf {x hi : Int} (h : impl_in.f x 0 hi = some true) (hh : hi ≤ 9223372036854775807) : (Lit.int .i64 x).wf = true := by
  unfold impl_in.f at h
  by_cases h0 : x ≥ 0
  · rw [if_pos h0] at h
    have h1 := of_decide_eq_true (Option.some.inj h)
    have e1 : IntKind.i64.min = -9223372036854775808 := by decide
    have e2 : IntKind.i64.max = 9223372036854775807 := by decide
    simp only [Lit.wf, e1, e2, Bool.and_eq_true, decide_eq_true_eq]
    omega
  · rw [if_neg h0] at h
    cases h
set_option maxHeartbeats 40000000 in
set_option maxRecDepth 100000 in
theorem impl_DiagramValid.calls (a0_0 : Int) (A0_1 : Option Addr) (c0_1 : Nat) (l0_1 : List (S85)) (r : Bool) (w : World) (hr0_1 : Kd.C k85 w A0_1 l0_1.length l0_1) (hc0_1 : l0_1.length ≤ c0_1) (h : impl_DiagramValid.f a0_0 l0_1 = some r) :
    Calls Try.prog 27 #[.agg #[.int .i64 a0_0, .slice A0_1 l0_1.length c0_1]] w fun e w' => e = .returned (.bool r) ∧ Below w.heap.size w w' := by
  have hu := Try.underlying29
  have hmax : l0_1.length ≤ 9223372036854775807 := hr0_1.2.1
  have HR := Aside0.mk hr0_1
  have HC := Aside0.mk hc0_1
  clear hr0_1 hc0_1
  unfold impl_DiagramValid.f at h
  obtain ⟨t, ht, h⟩ := Option.bind_eq_some_iff.mp h
  have HT := Aside0.mk ht
  have H := Aside0.mk h
  clear ht h
  cases t with
  | false =>
    have h := H.out
    rw [if_neg (by decide)] at h
    obtain rfl := Option.some.inj h
    clear h H
    go_enter Try.func27, Try.ntmps27
    go_wp2_with (first | ((with_reducible refine gate_dst (N := 1) rfl ?_); refine box_event ?hg (N := 1) ?hd (cs := #[.int .i64 a0_0, .slice A0_1 l0_1.length c0_1]) (t := 29) ?hr ?_; (case hd => rfl); (case hg => rfl); (case hr => first | (go_simp; done) | (go_simp; rfl)); intro gd hg w5 hbox hb; have HB := Aside0.mk hb; have HBX := Aside0.mk hbox; have hcz0 : w5.cell? ⟨gd, 0, none⟩ = some (.int .i64 a0_0) := (blk_cell hbox 0).trans rfl; have hcz1 : w5.cell? ⟨gd, 1, none⟩ = some (.slice A0_1 l0_1.length c0_1) := (blk_cell hbox 1).trans rfl; clear hb hg hbox) | ((with_reducible refine gate_callee (f := 47) rfl ?_); refine goesL_ (some 8) rfl rfl Try.func47 (by kernel_rfl) rfl #[.int .i64 a0_0, .int .i64 0, .int .i64 12] rfl (by (try simp only [List.map_toArray, List.map_cons, List.map_nil]); first | done | rfl) ?_; (with_reducible refine (impl_in.calls a0_0 0 12 false _ HT.out).mono ?_); rintro e w' ⟨rfl, ⟨nd, rfl⟩⟩; refine ⟨_, rfl, ?_⟩))
    go_ret
    exact ⟨rfl, by repeat (first | exact HB.out | apply pw_below_drewN)⟩
  | true =>
    have h := H.out
    rw [if_pos rfl] at h
    clear H
    by_cases hl : (l0_1.length : Int) > 2000
    · rw [if_pos hl] at h
      obtain rfl := Option.some.inj h
      clear h
      have hlb : decide ((l0_1.length : Int) > 2000) = true := decide_eq_true hl
      have hlc : decide (2000 < (l0_1.length : Int)) = true := decide_eq_true hl
      go_enter Try.func27, Try.ntmps27
      go_wp2_with (first | ((with_reducible refine gate_dst (N := 1) rfl ?_); refine box_event ?hg (N := 1) ?hd (cs := #[.int .i64 a0_0, .slice A0_1 l0_1.length c0_1]) (t := 29) ?hr ?_; (case hd => rfl); (case hg => rfl); (case hr => first | (go_simp; done) | (go_simp; rfl)); intro gd hg w5 hbox hb; have HB := Aside0.mk hb; have HBX := Aside0.mk hbox; have hcz0 : w5.cell? ⟨gd, 0, none⟩ = some (.int .i64 a0_0) := (blk_cell hbox 0).trans rfl; have hcz1 : w5.cell? ⟨gd, 1, none⟩ = some (.slice A0_1 l0_1.length c0_1) := (blk_cell hbox 1).trans rfl; clear hb hg hbox) | ((with_reducible refine gate_callee (f := 47) rfl ?_); refine goesL_ (some 8) rfl rfl Try.func47 (by kernel_rfl) rfl #[.int .i64 a0_0, .int .i64 0, .int .i64 12] rfl (by (try simp only [List.map_toArray, List.map_cons, List.map_nil]); first | done | rfl) ?_; (with_reducible refine (impl_in.calls a0_0 0 12 true _ HT.out).mono ?_); rintro e w' ⟨rfl, ⟨nd, rfl⟩⟩; refine ⟨_, rfl, ?_⟩))
      go_ret
      exact ⟨rfl, by repeat (first | exact HB.out | apply pw_below_drewN)⟩
    · rw [if_neg hl] at h
      have hlb : decide ((l0_1.length : Int) > 2000) = false := decide_eq_false hl
      have hlc : decide (2000 < (l0_1.length : Int)) = false := decide_eq_false hl
      have H := Aside0.mk h
      have HLL := Aside0.mk hl
      clear h hl
      go_enter Try.func27, Try.ntmps27
      go_wp2_with (first | ((with_reducible refine gate_dst (N := 1) rfl ?_); refine box_event ?hg (N := 1) ?hd (cs := #[.int .i64 a0_0, .slice A0_1 l0_1.length c0_1]) (t := 29) ?hr ?_; (case hd => rfl); (case hg => rfl); (case hr => first | (go_simp; done) | (go_simp; rfl)); intro gd hg w5 hbox hb; have HB := Aside0.mk hb; have HBX := Aside0.mk hbox; have hcz0 : w5.cell? ⟨gd, 0, none⟩ = some (.int .i64 a0_0) := (blk_cell hbox 0).trans rfl; have hcz1 : w5.cell? ⟨gd, 1, none⟩ = some (.slice A0_1 l0_1.length c0_1) := (blk_cell hbox 1).trans rfl; clear hb hg hbox) | ((with_reducible refine gate_callee (f := 47) rfl ?_); refine goesL_ (some 8) rfl rfl Try.func47 (by kernel_rfl) rfl #[.int .i64 a0_0, .int .i64 0, .int .i64 12] rfl (by (try simp only [List.map_toArray, List.map_cons, List.map_nil]); first | done | rfl) ?_; (with_reducible refine (impl_in.calls a0_0 0 12 true _ HT.out).mono ?_); rintro e w' ⟨rfl, ⟨nd, rfl⟩⟩; refine ⟨_, rfl, ?_⟩) | ((with_reducible refine gate_dst (N := 16) rfl ?_); refine Go.Proofs.YthphgkhmeobadabX.map_event impl_DiagramValid.key impl_DiagramValid.elem rfl (N := 16) rfl rfl ?_; intro bm hbm w6 hm hb2; have HM := Aside0.mk hm; have GM := Aside0.mk (show w.heap.size ≤ bm by rw [hbm]; exact (pw_below_drewN HB.out nd).size); have BKD := Aside0.mk ((hb2.block _ (blk_lt (w := w5) HBX.out)).trans (show (w5.drewN nd).heap[gd]? = _ from HBX.out)); have n0_ := Aside0.mk (below_step (pw_below_drewN HB.out nd) hb2); clear HB HBX; have HB := n0_; clear n0_ hm hb2 hbm; have hcd0 : w6.cell? ⟨gd, 0, none⟩ = some (.int .i64 a0_0) := (blk_cell BKD.out 0).trans rfl; have hcd1 : w6.cell? ⟨gd, 1, none⟩ = some (.slice A0_1 l0_1.length c0_1) := (blk_cell BKD.out 1).trans rfl))
      go_loopg [20] (l0_1.length + 1) (fun kq v20 wr => ∃ x : Int, v20 = .int .i64 x ∧ Aside0 (0 ≤ x ∧ x ≤ l0_1.length ∧ (kq : Int) + x = l0_1.length + 1) ∧ Aside0 (impl_DiagramValid.go a0_0 l0_1 (l0_1.length - x.toNat) x = some r) ∧ Aside0 (Go.Proofs.YthphgkhmeobadabX.MapF impl_DiagramValid.key impl_DiagramValid.elem wr bm x.toNat (impl_DiagramValid.F l0_1 x.toNat)) ∧ Aside0 (wr.heap[gd]? = some (.cells #[.int .i64 a0_0, .slice A0_1 l0_1.length c0_1] 29 (0, 0))) ∧ Aside0 (Below w.heap.size w wr))
      case atStart => exact ⟨0, rfl, ⟨by omega, by omega, by omega⟩, H, ⟨HM.out.congr (fun y _ => rfl)⟩, BKD, HB⟩
      case round =>
        clear hcd0 hcd1 HM BKD HB
        (try clear hcz0)
        (try clear hcz1)
        obtain ⟨x, rfl, ⟨h0, h1, hk⟩, HG, HM, BKD, HB⟩ := hrel
        by_cases c3 : x < (l0_1.length : Int)
        · have c3b0 : decide (x < (l0_1.length : Int)) = true := decide_eq_true c3
          have hg := HG.out
          rw [show l0_1.length - x.toNat = (l0_1.length - (x.toNat + 1)) + 1 by omega] at hg
          unfold impl_DiagramValid.go at hg
          obtain ⟨b, hok, hg⟩ := Option.bind_eq_some_iff.mp hg
          have HGO := Aside0.mk hg
          have HOK := Aside0.mk hok
          clear hg hok HG H
          obtain ⟨ad, e_, hx0, hx1, hx2⟩ := at_T85 HR.out x h0 c3
          cases e_
          replace hx0 := (HB.out.cell (World.block_lt_of_cell? w _ hx0)).trans hx0
          replace hx1 := (HB.out.cell (World.block_lt_of_cell? w _ hx1)).trans hx1
          replace hx2 := (HB.out.cell (World.block_lt_of_cell? w _ hx2)).trans hx2
          have p_ := eq_true h0
          have q_ := eq_true c3
          have HX := Aside0.mk (And.intro h0 (And.intro h1 hk))
          go_wp2_with (first | ((with_reducible refine gate_dst (N := 5) rfl ?_); refine box_event ?hg (N := 5) ?hd (cs := #[.int .i64 0, .int .i64 0, .int .i64 0]) (t := 85) ?hr ?_; (case hd => rfl); (case hg => rfl); (case hr => first | (go_simp; done) | (go_simp; rfl)); intro gf hgf w7 hbox hb; have NE1 := Aside0.mk (show bm ≠ gf by have := HM.out.lt; omega); have NE2 := Aside0.mk (show gd ≠ gf by have := blk_lt BKD.out; omega); have GE := Aside0.mk (show w.heap.size ≤ gf by rw [hgf]; exact HB.out.size); have n1_ := Aside0.mk ((hb.block _ (blk_lt BKD.out)).trans BKD.out); have n2_ := Aside0.mk (HM.out.below hb); have n3_ := Aside0.mk (below_step HB.out hb); clear BKD HM HB; have BKD := n1_; have HM := n2_; have HB := n3_; have BKF := Aside0.mk hbox; clear n1_ n2_ n3_ hb hgf; have hcz0 : w7.cell? ⟨gf, 0, none⟩ = some (.int .i64 0) := (blk_cell hbox 0).trans rfl; have hcz1 : w7.cell? ⟨gf, 1, none⟩ = some (.int .i64 0) := (blk_cell hbox 1).trans rfl; have hcz2 : w7.cell? ⟨gf, 2, none⟩ = some (.int .i64 0) := (blk_cell hbox 2).trans rfl; have hfz0 := blk_frozen hbox 0; have hfz1 := blk_frozen hbox 1; have hfz2 := blk_frozen hbox 2; clear hbox))
          generalize hW : ((w7.setCell ⟨gf, 0, none⟩ (.int .i64 ((rd_T85 l0_1 x).f0))).setCell ⟨gf, 1, none⟩ (.int .i64 ((rd_T85 l0_1 x).f1))).setCell ⟨gf, 2, none⟩ (.int .i64 ((rd_T85 l0_1 x).f2)) = wz
          have BKF2 : wz.drew.heap[gf]? = some (.cells #[.int .i64 ((rd_T85 l0_1 x).f0), .int .i64 ((rd_T85 l0_1 x).f1), .int .i64 ((rd_T85 l0_1 x).f2)] 85 (0, 0)) := by
            show wz.heap[gf]? = _
            rw [← hW]
            refine blk_put (cs := #[.int .i64 ((rd_T85 l0_1 x).f0), .int .i64 ((rd_T85 l0_1 x).f1), .int .i64 0]) ?_ 2 _ rfl
            refine blk_put (cs := #[.int .i64 ((rd_T85 l0_1 x).f0), .int .i64 0, .int .i64 0]) ?_ 1 _ rfl
            refine blk_put (cs := #[.int .i64 0, .int .i64 0, .int .i64 0]) ?_ 0 _ rfl
            exact BKF.out
          have BKD2 : wz.drew.heap[gd]? = some (.cells #[.int .i64 a0_0, .slice (some ad) l0_1.length c0_1] 29 (0, 0)) := by
            show wz.heap[gd]? = _
            rw [← hW]
            exact blk_far (blk_far (blk_far BKD.out NE2.out _) NE2.out _) NE2.out _
          have HM2 := HM.out.move (w' := wz.drew) (by
            show wz.heap[bm]? = _
            rw [← hW, Below.heap_setCell _ _ _ _ NE1.out, Below.heap_setCell _ _ _ _ NE1.out, Below.heap_setCell _ _ _ _ NE1.out])
          have HB2 : Below w.heap.size w wz.drew := below_drew1 (by rw [← hW]; exact below_set (below_set (below_set HB.out GE.out) GE.out) GE.out)
          clear hW hcz0 hcz1 hcz2 hfz0 hfz1 hfz2 hx0 hx1 hx2 BKF BKD HM HB
          have BKF := Aside0.mk BKF2
          have BKD := Aside0.mk BKD2
          have HM := Aside0.mk HM2
          have HB := Aside0.mk HB2
          clear BKF2 BKD2 HM2 HB2
          have hcs := impl_DiagramValid.cases HOK.out
          rcases hcs with ⟨ht1, rfl⟩ | ⟨ht1, ht2, rfl⟩ | ⟨ht1, ht2, ht3, rfl⟩ | ⟨ht1, ht2, ht3, h4, rfl⟩ | ⟨v1, ht1, ht2, ht3, h4, hv1, h5, rfl⟩ | ⟨v1, v2, ht1, ht2, ht3, h4, hv1, h5, hv2, h6, rfl⟩ | ⟨v1, v2, ht1, ht2, ht3, h4, hv1, h5, hv2, h6, hbb⟩
          · skip
            have HT1 := Aside0.mk ht1
            clear ht1
            have hr := HGO.out
            rw [if_neg (by decide)] at hr
            obtain rfl := Option.some.inj hr
            clear hr
            refine start_ (n := 53) (S := fun w' => w'.cell? ⟨gd, 0, none⟩ = some (.int .i64 a0_0) ∧ w'.cell? ⟨gd, 1, none⟩ = some (.slice (some ad) l0_1.length c0_1) ∧ w'.cell? ⟨gf, 0, none⟩ = some (.int .i64 ((rd_T85 l0_1 x).f0)) ∧ w'.cell? ⟨gf, 1, none⟩ = some (.int .i64 ((rd_T85 l0_1 x).f1)) ∧ w'.cell? ⟨gf, 2, none⟩ = some (.int .i64 ((rd_T85 l0_1 x).f2))) (ds := []) #[false, false, false, false, false, false, false, false, false, false, false, false, false, false, false, false, false, false, false, false, false, false, false, false, false, false, false, false, false, false, false, false, false, false, false, false, false, false, false, false, false, false, false, false, false, false, false, false, false, false, false, false, false] (by kernel_rfl) rfl rfl ⟨(blk_cell BKD.out 0).trans rfl, (blk_cell BKD.out 1).trans rfl, (blk_cell BKF.out 0).trans rfl, (blk_cell BKF.out 1).trans rfl, (blk_cell BKF.out 2).trans rfl⟩ (fun hHeld => ?_)
            refine with_tabW impl_DiagramValid.tab7 impl_DiagramValid.bits7 (fun HT_ HW_ => ?_)
            generalize wz.drew = wy at BKF BKD HM HB hHeld ⊢
            refine pure_ (i := 0) (N := some 25) (v := ?_) (a' := ?_) (Go.Proofs.YthphgkhmeobadabX.bA 53 1) rfl rfl (any_of HT_.out (by kernel_rfl)) (fun _ _ _ h => h) (Or.inl ⟨by rfl, ?_⟩) ?_ ?_
            rotate_left
            · intro w'
              go_simp
              with_reducible rfl
            rotate_left
            · simp only [Act.put, List.setIfInBounds_toArray, List.set_cons_zero, List.set_cons_succ, i64_w, i32_w]
              rfl
            refine pure_ (i := 2) (N := some 27) (v := ?_) (a' := ?_) (Go.Proofs.YthphgkhmeobadabX.bA 53 5) rfl rfl (any_of HT_.out (by kernel_rfl)) (fun _ _ _ h => h) (Or.inl ⟨by rfl, ?_⟩) ?_ ?_
            rotate_left
            · intro w'
              go_simp
              with_reducible rfl
            rotate_left
            · simp only [Act.put, List.setIfInBounds_toArray, List.set_cons_zero, List.set_cons_succ, i64_w, i32_w]
              rfl
            refine take_ (i := 1) (N := some 26) (v := ?_) (a' := ?_) (Go.Proofs.YthphgkhmeobadabX.bA 53 7) rfl rfl (take_ofW HT_.out HW_.out (by kernel_rfl)) (fun _ _ _ h => h) (Or.inl ⟨by rfl, ?_⟩) hHeld ?_ ?_
            rotate_left
            · rintro w' ⟨s0, s1, s2, s3, s4⟩
              go_simp
              with_reducible rfl
            rotate_left
            · simp only [Act.put, List.setIfInBounds_toArray, List.set_cons_zero, List.set_cons_succ, i64_w, i32_w]
              rfl
            refine take_ (i := 3) (N := some 28) (v := ?_) (a' := ?_) (Go.Proofs.YthphgkhmeobadabX.bA 53 15) rfl rfl (take_ofW HT_.out HW_.out (by kernel_rfl)) (fun _ _ _ h => h) (Or.inl ⟨by rfl, ?_⟩) hHeld ?_ ?_
            rotate_left
            · rintro w' ⟨s0, s1, s2, s3, s4⟩
              go_simp
              with_reducible rfl
            rotate_left
            · simp only [Act.put, List.setIfInBounds_toArray, List.set_cons_zero, List.set_cons_succ, i64_w, i32_w]
              rfl
            refine pure_ (i := 4) (N := some 29) (v := ?_) (a' := ?_) (Go.Proofs.YthphgkhmeobadabX.bA 53 31) rfl rfl (any_of HT_.out (by kernel_rfl)) (fun _ _ _ h => h) (Or.inl ⟨by rfl, ?_⟩) ?_ ?_
            rotate_left
            · intro w'
              go_simp
              with_reducible rfl
            rotate_left
            · simp only [Act.put, List.setIfInBounds_toArray, List.set_cons_zero, List.set_cons_succ, i64_w, i32_w]
              rfl
            refine one_ (i := 5) (N := some 30) (Go.Proofs.YthphgkhmeobadabX.bA 53 63) rfl rfl (one_of HT_.out (by kernel_rfl)) (by decide) (fun K hK => ?_)
            refine goes_ Try.func47 (by kernel_rfl) rfl #[.int .i64 ((rd_T85 l0_1 x).f0), .int .i64 0, .int .i64 (wrap64 (a0_0 - 1))] (by rfl) rfl rfl (by (try simp only [List.map_toArray, List.map_cons, List.map_nil]); first | done | rfl) ?_
            with_reducible refine (impl_in.calls ((rd_T85 l0_1 x).f0) 0 (wrap64 (a0_0 - 1)) false _ HT1.out).mono ?_
            rintro e wn ⟨rfl, hd⟩
            have hb := hd.below
            clear hd
            refine ⟨_, rfl, ?_⟩
            have n0_ := Aside0.mk ((hb.block _ (blk_lt BKF.out)).trans BKF.out)
            have n1_ := Aside0.mk ((hb.block _ (blk_lt BKD.out)).trans BKD.out)
            have n2_ := Aside0.mk (HM.out.below hb)
            have n3_ := Aside0.mk (below_step HB.out hb)
            clear BKF BKD HM HB
            have BKF := n0_
            have BKD := n1_
            have HM := n2_
            have HB := n3_
            clear n0_ n1_ n2_ n3_ hb
            refine hK.out _ _ ⟨(blk_cell BKD.out 0).trans rfl, (blk_cell BKD.out 1).trans rfl, (blk_cell BKF.out 0).trans rfl, (blk_cell BKF.out 1).trans rfl, (blk_cell BKF.out 2).trans rfl⟩ (fun hHeld => ?_)
            clear hK K
            refine norm_ (a' := ?_) ?_ ?_
            rotate_left
            · show Act.put _ (some 30) _ = _
              simp only [Act.put, List.setIfInBounds_toArray, List.set_cons_zero, List.set_cons_succ, i64_w, i32_w]
              rfl
            refine pure_ (i := 6) (N := some 31) (v := ?_) (a' := ?_) (Go.Proofs.YthphgkhmeobadabX.bA 53 127) rfl rfl (any_of HT_.out (by kernel_rfl)) (fun _ _ _ h => h) (Or.inl ⟨by rfl, ?_⟩) ?_ ?_
            rotate_left
            · intro w'
              go_simp
              with_reducible rfl
            rotate_left
            · simp only [Act.put, List.setIfInBounds_toArray, List.set_cons_zero, List.set_cons_succ, i64_w, i32_w]
              rfl
            refine pure_ (i := 7) (N := some 32) (v := ?_) (a' := ?_) (Go.Proofs.YthphgkhmeobadabX.bA 53 255) rfl rfl (any_of HT_.out (by kernel_rfl)) (fun _ _ _ h => h) (Or.inl ⟨by rfl, ?_⟩) ?_ ?_
            rotate_left
            · intro w'
              go_simp
              with_reducible rfl
            rotate_left
            · simp only [Act.put, List.setIfInBounds_toArray, List.set_cons_zero, List.set_cons_succ, i64_w, i32_w]
              rfl
            refine pure_ (i := 8) (N := some 33) (v := undef) (a' := ?_) (Go.Proofs.YthphgkhmeobadabX.bA 53 511) rfl rfl (any_of HT_.out (by kernel_rfl)) (fun _ _ _ h => h) (Or.inr ⟨by rfl, rfl⟩) ?_ ?_
            rotate_left
            · simp only [Act.put, List.setIfInBounds_toArray, List.set_cons_zero, List.set_cons_succ, i64_w, i32_w]
              rfl
            refine pure_ (i := 9) (N := some 34) (v := undef) (a' := ?_) (Go.Proofs.YthphgkhmeobadabX.bA 53 1023) rfl rfl (any_of HT_.out (by kernel_rfl)) (fun _ _ _ h => h) (Or.inr ⟨by rfl, rfl⟩) ?_ ?_
            rotate_left
            · simp only [Act.put, List.setIfInBounds_toArray, List.set_cons_zero, List.set_cons_succ, i64_w, i32_w]
              rfl
            refine pure_ (i := 10) (N := some 35) (v := undef) (a' := ?_) (Go.Proofs.YthphgkhmeobadabX.bA 53 2047) rfl rfl (any_of HT_.out (by kernel_rfl)) (fun _ _ _ h => h) (Or.inr ⟨by rfl, rfl⟩) ?_ ?_
            rotate_left
            · simp only [Act.put, List.setIfInBounds_toArray, List.set_cons_zero, List.set_cons_succ, i64_w, i32_w]
              rfl
            refine pure_ (i := 11) (N := some 36) (v := undef) (a' := ?_) (Go.Proofs.YthphgkhmeobadabX.bA 53 4095) rfl rfl (any_of HT_.out (by kernel_rfl)) (fun _ _ _ h => h) (Or.inr ⟨by rfl, rfl⟩) ?_ ?_
            rotate_left
            · simp only [Act.put, List.setIfInBounds_toArray, List.set_cons_zero, List.set_cons_succ, i64_w, i32_w]
              rfl
            refine pure_ (i := 12) (N := some 37) (v := undef) (a' := ?_) (Go.Proofs.YthphgkhmeobadabX.bA 53 8191) rfl rfl (any_of HT_.out (by kernel_rfl)) (fun _ _ _ h => h) (Or.inr ⟨by rfl, rfl⟩) ?_ ?_
            rotate_left
            · simp only [Act.put, List.setIfInBounds_toArray, List.set_cons_zero, List.set_cons_succ, i64_w, i32_w]
              rfl
            refine pure_ (i := 13) (N := some 38) (v := undef) (a' := ?_) (Go.Proofs.YthphgkhmeobadabX.bA 53 16383) rfl rfl (any_of HT_.out (by kernel_rfl)) (fun _ _ _ h => h) (Or.inr ⟨by rfl, rfl⟩) ?_ ?_
            rotate_left
            · simp only [Act.put, List.setIfInBounds_toArray, List.set_cons_zero, List.set_cons_succ, i64_w, i32_w]
              rfl
            refine pure_ (i := 14) (N := some 39) (v := ?_) (a' := ?_) (Go.Proofs.YthphgkhmeobadabX.bA 53 32767) rfl rfl (any_of HT_.out (by kernel_rfl)) (fun _ _ _ h => h) (Or.inl ⟨by rfl, ?_⟩) ?_ ?_
            rotate_left
            · intro w'
              go_simp
              with_reducible rfl
            rotate_left
            · simp only [Act.put, List.setIfInBounds_toArray, List.set_cons_zero, List.set_cons_succ, i64_w, i32_w]
              rfl
            refine pure_ (i := 15) (N := some 40) (v := ?_) (a' := ?_) (Go.Proofs.YthphgkhmeobadabX.bA 53 65535) rfl rfl (any_of HT_.out (by kernel_rfl)) (fun _ _ _ h => h) (Or.inl ⟨by rfl, ?_⟩) ?_ ?_
            rotate_left
            · intro w'
              go_simp
              with_reducible rfl
            rotate_left
            · simp only [Act.put, List.setIfInBounds_toArray, List.set_cons_zero, List.set_cons_succ, i64_w, i32_w]
              rfl
            refine pure_ (i := 16) (N := some 41) (v := undef) (a' := ?_) (Go.Proofs.YthphgkhmeobadabX.bA 53 131071) rfl rfl (any_of HT_.out (by kernel_rfl)) (fun _ _ _ h => h) (Or.inr ⟨by rfl, rfl⟩) ?_ ?_
            rotate_left
            · simp only [Act.put, List.setIfInBounds_toArray, List.set_cons_zero, List.set_cons_succ, i64_w, i32_w]
              rfl
            refine pure_ (i := 17) (N := some 42) (v := undef) (a' := ?_) (Go.Proofs.YthphgkhmeobadabX.bA 53 262143) rfl rfl (any_of HT_.out (by kernel_rfl)) (fun _ _ _ h => h) (Or.inr ⟨by rfl, rfl⟩) ?_ ?_
            rotate_left
            · simp only [Act.put, List.setIfInBounds_toArray, List.set_cons_zero, List.set_cons_succ, i64_w, i32_w]
              rfl
            refine pure_ (i := 18) (N := some 43) (v := undef) (a' := ?_) (Go.Proofs.YthphgkhmeobadabX.bA 53 524287) rfl rfl (any_of HT_.out (by kernel_rfl)) (fun _ _ _ h => h) (Or.inr ⟨by rfl, rfl⟩) ?_ ?_
            rotate_left
            · simp only [Act.put, List.setIfInBounds_toArray, List.set_cons_zero, List.set_cons_succ, i64_w, i32_w]
              rfl
            refine pure_ (i := 19) (N := some 44) (v := undef) (a' := ?_) (Go.Proofs.YthphgkhmeobadabX.bA 53 1048575) rfl rfl (any_of HT_.out (by kernel_rfl)) (fun _ _ _ h => h) (Or.inr ⟨by rfl, rfl⟩) ?_ ?_
            rotate_left
            · simp only [Act.put, List.setIfInBounds_toArray, List.set_cons_zero, List.set_cons_succ, i64_w, i32_w]
              rfl
            refine pure_ (i := 20) (N := some 45) (v := undef) (a' := ?_) (Go.Proofs.YthphgkhmeobadabX.bA 53 2097151) rfl rfl (any_of HT_.out (by kernel_rfl)) (fun _ _ _ h => h) (Or.inr ⟨by rfl, rfl⟩) ?_ ?_
            rotate_left
            · simp only [Act.put, List.setIfInBounds_toArray, List.set_cons_zero, List.set_cons_succ, i64_w, i32_w]
              rfl
            refine pure_ (i := 21) (N := some 46) (v := undef) (a' := ?_) (Go.Proofs.YthphgkhmeobadabX.bA 53 4194303) rfl rfl (any_of HT_.out (by kernel_rfl)) (fun _ _ _ h => h) (Or.inr ⟨by rfl, rfl⟩) ?_ ?_
            rotate_left
            · simp only [Act.put, List.setIfInBounds_toArray, List.set_cons_zero, List.set_cons_succ, i64_w, i32_w]
              rfl
            refine pure_ (i := 22) (N := some 47) (v := ?_) (a' := ?_) (Go.Proofs.YthphgkhmeobadabX.bA 53 8388607) rfl rfl (any_of HT_.out (by kernel_rfl)) (fun _ _ _ h => h) (Or.inl ⟨by rfl, ?_⟩) ?_ ?_
            rotate_left
            · intro w'
              go_simp
              with_reducible rfl
            rotate_left
            · simp only [Act.put, List.setIfInBounds_toArray, List.set_cons_zero, List.set_cons_succ, i64_w, i32_w]
              rfl
            refine pure_ (i := 23) (N := some 48) (v := ?_) (a' := ?_) (Go.Proofs.YthphgkhmeobadabX.bA 53 16777215) rfl rfl (any_of HT_.out (by kernel_rfl)) (fun _ _ _ h => h) (Or.inl ⟨by rfl, ?_⟩) ?_ ?_
            rotate_left
            · intro w'
              go_simp
              with_reducible rfl
            rotate_left
            · simp only [Act.put, List.setIfInBounds_toArray, List.set_cons_zero, List.set_cons_succ, i64_w, i32_w]
              rfl
            refine pure_ (i := 24) (N := some 49) (v := undef) (a' := ?_) (Go.Proofs.YthphgkhmeobadabX.bA 53 33554431) rfl rfl (any_of HT_.out (by kernel_rfl)) (fun _ _ _ h => h) (Or.inr ⟨by rfl, rfl⟩) ?_ ?_
            rotate_left
            · simp only [Act.put, List.setIfInBounds_toArray, List.set_cons_zero, List.set_cons_succ, i64_w, i32_w]
              rfl
            refine pure_ (i := 25) (N := some 50) (v := undef) (a' := ?_) (Go.Proofs.YthphgkhmeobadabX.bA 53 67108863) rfl rfl (any_of HT_.out (by kernel_rfl)) (fun _ _ _ h => h) (Or.inr ⟨by rfl, rfl⟩) ?_ ?_
            rotate_left
            · simp only [Act.put, List.setIfInBounds_toArray, List.set_cons_zero, List.set_cons_succ, i64_w, i32_w]
              rfl
            refine pure_ (i := 26) (N := some 51) (v := undef) (a' := ?_) (Go.Proofs.YthphgkhmeobadabX.bA 53 134217727) rfl rfl (any_of HT_.out (by kernel_rfl)) (fun _ _ _ h => h) (Or.inr ⟨by rfl, rfl⟩) ?_ ?_
            rotate_left
            · simp only [Act.put, List.setIfInBounds_toArray, List.set_cons_zero, List.set_cons_succ, i64_w, i32_w]
              rfl
            refine pure_ (i := 27) (N := some 52) (v := undef) (a' := ?_) (Go.Proofs.YthphgkhmeobadabX.bA 53 268435455) rfl rfl (any_of HT_.out (by kernel_rfl)) (fun _ _ _ h => h) (Or.inr ⟨by rfl, rfl⟩) ?_ ?_
            rotate_left
            · simp only [Act.put, List.setIfInBounds_toArray, List.set_cons_zero, List.set_cons_succ, i64_w, i32_w]
              rfl
            refine pure_ (i := 28) (N := some 53) (v := undef) (a' := ?_) (Go.Proofs.YthphgkhmeobadabX.bA 53 536870911) rfl rfl (any_of HT_.out (by kernel_rfl)) (fun _ _ _ h => h) (Or.inr ⟨by rfl, rfl⟩) ?_ ?_
            rotate_left
            · simp only [Act.put, List.setIfInBounds_toArray, List.set_cons_zero, List.set_cons_succ, i64_w, i32_w]
              rfl
            refine pure_ (i := 29) (N := some 54) (v := ?_) (a' := ?_) (Go.Proofs.YthphgkhmeobadabX.bA 53 1073741823) rfl rfl (any_of HT_.out (by kernel_rfl)) (fun _ _ _ h => h) (Or.inl ⟨by rfl, ?_⟩) ?_ ?_
            rotate_left
            · intro w'
              go_simp
              with_reducible rfl
            rotate_left
            · simp only [Act.put, List.setIfInBounds_toArray, List.set_cons_zero, List.set_cons_succ, i64_w, i32_w]
              rfl
            refine pure_ (i := 30) (N := some 55) (v := ?_) (a' := ?_) (Go.Proofs.YthphgkhmeobadabX.bA 53 2147483647) rfl rfl (any_of HT_.out (by kernel_rfl)) (fun _ _ _ h => h) (Or.inl ⟨by rfl, ?_⟩) ?_ ?_
            rotate_left
            · intro w'
              go_simp
              with_reducible rfl
            rotate_left
            · simp only [Act.put, List.setIfInBounds_toArray, List.set_cons_zero, List.set_cons_succ, i64_w, i32_w]
              rfl
            refine pure_ (i := 31) (N := some 56) (v := undef) (a' := ?_) (Go.Proofs.YthphgkhmeobadabX.bA 53 4294967295) rfl rfl (any_of HT_.out (by kernel_rfl)) (fun _ _ _ h => h) (Or.inr ⟨by rfl, rfl⟩) ?_ ?_
            rotate_left
            · simp only [Act.put, List.setIfInBounds_toArray, List.set_cons_zero, List.set_cons_succ, i64_w, i32_w]
              rfl
            refine pure_ (i := 32) (N := some 57) (v := undef) (a' := ?_) (Go.Proofs.YthphgkhmeobadabX.bA 53 8589934591) rfl rfl (any_of HT_.out (by kernel_rfl)) (fun _ _ _ h => h) (Or.inr ⟨by rfl, rfl⟩) ?_ ?_
            rotate_left
            · simp only [Act.put, List.setIfInBounds_toArray, List.set_cons_zero, List.set_cons_succ, i64_w, i32_w]
              rfl
            refine pure_ (i := 33) (N := some 58) (v := undef) (a' := ?_) (Go.Proofs.YthphgkhmeobadabX.bA 53 17179869183) rfl rfl (any_of HT_.out (by kernel_rfl)) (fun _ _ _ h => h) (Or.inr ⟨by rfl, rfl⟩) ?_ ?_
            rotate_left
            · simp only [Act.put, List.setIfInBounds_toArray, List.set_cons_zero, List.set_cons_succ, i64_w, i32_w]
              rfl
            refine pure_ (i := 34) (N := some 59) (v := undef) (a' := ?_) (Go.Proofs.YthphgkhmeobadabX.bA 53 34359738367) rfl rfl (any_of HT_.out (by kernel_rfl)) (fun _ _ _ h => h) (Or.inr ⟨by rfl, rfl⟩) ?_ ?_
            rotate_left
            · simp only [Act.put, List.setIfInBounds_toArray, List.set_cons_zero, List.set_cons_succ, i64_w, i32_w]
              rfl
            refine pure_ (i := 35) (N := some 60) (v := undef) (a' := ?_) (Go.Proofs.YthphgkhmeobadabX.bA 53 68719476735) rfl rfl (any_of HT_.out (by kernel_rfl)) (fun _ _ _ h => h) (Or.inr ⟨by rfl, rfl⟩) ?_ ?_
            rotate_left
            · simp only [Act.put, List.setIfInBounds_toArray, List.set_cons_zero, List.set_cons_succ, i64_w, i32_w]
              rfl
            refine pure_ (i := 36) (N := some 61) (v := undef) (a' := ?_) (Go.Proofs.YthphgkhmeobadabX.bA 53 137438953471) rfl rfl (any_of HT_.out (by kernel_rfl)) (fun _ _ _ h => h) (Or.inr ⟨by rfl, rfl⟩) ?_ ?_
            rotate_left
            · simp only [Act.put, List.setIfInBounds_toArray, List.set_cons_zero, List.set_cons_succ, i64_w, i32_w]
              rfl
            refine pure_ (i := 37) (N := some 62) (v := undef) (a' := ?_) (Go.Proofs.YthphgkhmeobadabX.bA 53 274877906943) rfl rfl (any_of HT_.out (by kernel_rfl)) (fun _ _ _ h => h) (Or.inr ⟨by rfl, rfl⟩) ?_ ?_
            rotate_left
            · simp only [Act.put, List.setIfInBounds_toArray, List.set_cons_zero, List.set_cons_succ, i64_w, i32_w]
              rfl
            refine pure_ (i := 38) (N := some 63) (v := ?_) (a' := ?_) (Go.Proofs.YthphgkhmeobadabX.bA 53 549755813887) rfl rfl (any_of HT_.out (by kernel_rfl)) (fun _ _ _ h => h) (Or.inl ⟨by rfl, ?_⟩) ?_ ?_
            rotate_left
            · intro w'
              go_simp
              with_reducible rfl
            rotate_left
            · simp only [Act.put, List.setIfInBounds_toArray, List.set_cons_zero, List.set_cons_succ, i64_w, i32_w]
              rfl
            refine pure_ (i := 39) (N := some 64) (v := ?_) (a' := ?_) (Go.Proofs.YthphgkhmeobadabX.bA 53 1099511627775) rfl rfl (any_of HT_.out (by kernel_rfl)) (fun _ _ _ h => h) (Or.inl ⟨by rfl, ?_⟩) ?_ ?_
            rotate_left
            · intro w'
              go_simp
              with_reducible rfl
            rotate_left
            · simp only [Act.put, List.setIfInBounds_toArray, List.set_cons_zero, List.set_cons_succ, i64_w, i32_w]
              rfl
            refine pure_ (i := 40) (N := some 65) (v := undef) (a' := ?_) (Go.Proofs.YthphgkhmeobadabX.bA 53 2199023255551) rfl rfl (any_of HT_.out (by kernel_rfl)) (fun _ _ _ h => h) (Or.inr ⟨by rfl, rfl⟩) ?_ ?_
            rotate_left
            · simp only [Act.put, List.setIfInBounds_toArray, List.set_cons_zero, List.set_cons_succ, i64_w, i32_w]
              rfl
            refine pure_ (i := 41) (N := some 66) (v := undef) (a' := ?_) (Go.Proofs.YthphgkhmeobadabX.bA 53 4398046511103) rfl rfl (any_of HT_.out (by kernel_rfl)) (fun _ _ _ h => h) (Or.inr ⟨by rfl, rfl⟩) ?_ ?_
            rotate_left
            · simp only [Act.put, List.setIfInBounds_toArray, List.set_cons_zero, List.set_cons_succ, i64_w, i32_w]
              rfl
            refine pure_ (i := 42) (N := some 67) (v := undef) (a' := ?_) (Go.Proofs.YthphgkhmeobadabX.bA 53 8796093022207) rfl rfl (any_of HT_.out (by kernel_rfl)) (fun _ _ _ h => h) (Or.inr ⟨by rfl, rfl⟩) ?_ ?_
            rotate_left
            · simp only [Act.put, List.setIfInBounds_toArray, List.set_cons_zero, List.set_cons_succ, i64_w, i32_w]
              rfl
            refine pure_ (i := 43) (N := some 68) (v := undef) (a' := ?_) (Go.Proofs.YthphgkhmeobadabX.bA 53 17592186044415) rfl rfl (any_of HT_.out (by kernel_rfl)) (fun _ _ _ h => h) (Or.inr ⟨by rfl, rfl⟩) ?_ ?_
            rotate_left
            · simp only [Act.put, List.setIfInBounds_toArray, List.set_cons_zero, List.set_cons_succ, i64_w, i32_w]
              rfl
            refine pure_ (i := 44) (N := some 69) (v := undef) (a' := ?_) (Go.Proofs.YthphgkhmeobadabX.bA 53 35184372088831) rfl rfl (any_of HT_.out (by kernel_rfl)) (fun _ _ _ h => h) (Or.inr ⟨by rfl, rfl⟩) ?_ ?_
            rotate_left
            · simp only [Act.put, List.setIfInBounds_toArray, List.set_cons_zero, List.set_cons_succ, i64_w, i32_w]
              rfl
            refine pure_ (i := 45) (N := some 70) (v := undef) (a' := ?_) (Go.Proofs.YthphgkhmeobadabX.bA 53 70368744177663) rfl rfl (any_of HT_.out (by kernel_rfl)) (fun _ _ _ h => h) (Or.inr ⟨by rfl, rfl⟩) ?_ ?_
            rotate_left
            · simp only [Act.put, List.setIfInBounds_toArray, List.set_cons_zero, List.set_cons_succ, i64_w, i32_w]
              rfl
            refine pure_ (i := 46) (N := some 71) (v := undef) (a' := ?_) (Go.Proofs.YthphgkhmeobadabX.bA 53 140737488355327) rfl rfl (any_of HT_.out (by kernel_rfl)) (fun _ _ _ h => h) (Or.inr ⟨by rfl, rfl⟩) ?_ ?_
            rotate_left
            · simp only [Act.put, List.setIfInBounds_toArray, List.set_cons_zero, List.set_cons_succ, i64_w, i32_w]
              rfl
            refine pure_ (i := 47) (N := some 72) (v := ?_) (a' := ?_) (Go.Proofs.YthphgkhmeobadabX.bA 53 281474976710655) rfl rfl (any_of HT_.out (by kernel_rfl)) (fun _ _ _ h => h) (Or.inl ⟨by rfl, ?_⟩) ?_ ?_
            rotate_left
            · intro w'
              go_simp
              with_reducible rfl
            rotate_left
            · simp only [Act.put, List.setIfInBounds_toArray, List.set_cons_zero, List.set_cons_succ, i64_w, i32_w]
              rfl
            refine pure_ (i := 48) (N := some 73) (v := ?_) (a' := ?_) (Go.Proofs.YthphgkhmeobadabX.bA 53 562949953421311) rfl rfl (any_of HT_.out (by kernel_rfl)) (fun _ _ _ h => h) (Or.inl ⟨by rfl, ?_⟩) ?_ ?_
            rotate_left
            · intro w'
              go_simp
              with_reducible rfl
            rotate_left
            · simp only [Act.put, List.setIfInBounds_toArray, List.set_cons_zero, List.set_cons_succ, i64_w, i32_w]
              rfl
            refine pure_ (i := 49) (N := some 74) (v := undef) (a' := ?_) (Go.Proofs.YthphgkhmeobadabX.bA 53 1125899906842623) rfl rfl (any_of HT_.out (by kernel_rfl)) (fun _ _ _ h => h) (Or.inr ⟨by rfl, rfl⟩) ?_ ?_
            rotate_left
            · simp only [Act.put, List.setIfInBounds_toArray, List.set_cons_zero, List.set_cons_succ, i64_w, i32_w]
              rfl
            refine pure_ (i := 50) (N := some 75) (v := undef) (a' := ?_) (Go.Proofs.YthphgkhmeobadabX.bA 53 2251799813685247) rfl rfl (any_of HT_.out (by kernel_rfl)) (fun _ _ _ h => h) (Or.inr ⟨by rfl, rfl⟩) ?_ ?_
            rotate_left
            · simp only [Act.put, List.setIfInBounds_toArray, List.set_cons_zero, List.set_cons_succ, i64_w, i32_w]
              rfl
            refine pure_ (i := 51) (N := some 76) (v := undef) (a' := ?_) (Go.Proofs.YthphgkhmeobadabX.bA 53 4503599627370495) rfl rfl (any_of HT_.out (by kernel_rfl)) (fun _ _ _ h => h) (Or.inr ⟨by rfl, rfl⟩) ?_ ?_
            rotate_left
            · simp only [Act.put, List.setIfInBounds_toArray, List.set_cons_zero, List.set_cons_succ, i64_w, i32_w]
              rfl
            refine pure_ (i := 52) (N := some 77) (v := ?_) (a' := ?_) (Go.Proofs.YthphgkhmeobadabX.bA 53 9007199254740991) rfl rfl (any_of HT_.out (by kernel_rfl)) (fun _ _ _ h => h) (Or.inl ⟨by rfl, ?_⟩) ?_ ?_
            rotate_left
            · intro w'
              go_simp
              with_reducible rfl
            rotate_left
            · simp only [Act.put, List.setIfInBounds_toArray, List.set_cons_zero, List.set_cons_succ, i64_w, i32_w]
              rfl
            refine done_ (done_of HT_.out (by kernel_rfl)) ?_
            try go_wp2
            go_ret
            exact ⟨rfl, HB.out⟩
          · skip
            have HT1 := Aside0.mk ht1
            have HT2 := Aside0.mk ht2
            clear ht1 ht2
            have hr := HGO.out
            rw [if_neg (by decide)] at hr
            obtain rfl := Option.some.inj hr
            clear hr
            refine start_ (n := 53) (S := fun w' => w'.cell? ⟨gd, 0, none⟩ = some (.int .i64 a0_0) ∧ w'.cell? ⟨gd, 1, none⟩ = some (.slice (some ad) l0_1.length c0_1) ∧ w'.cell? ⟨gf, 0, none⟩ = some (.int .i64 ((rd_T85 l0_1 x).f0)) ∧ w'.cell? ⟨gf, 1, none⟩ = some (.int .i64 ((rd_T85 l0_1 x).f1)) ∧ w'.cell? ⟨gf, 2, none⟩ = some (.int .i64 ((rd_T85 l0_1 x).f2))) (ds := []) #[false, false, false, false, false, false, false, false, false, false, false, false, false, false, false, false, false, false, false, false, false, false, false, false, false, false, false, false, false, false, false, false, false, false, false, false, false, false, false, false, false, false, false, false, false, false, false, false, false, false, false, false, false] (by kernel_rfl) rfl rfl ⟨(blk_cell BKD.out 0).trans rfl, (blk_cell BKD.out 1).trans rfl, (blk_cell BKF.out 0).trans rfl, (blk_cell BKF.out 1).trans rfl, (blk_cell BKF.out 2).trans rfl⟩ (fun hHeld => ?_)
            refine with_tabW impl_DiagramValid.tab7 impl_DiagramValid.bits7 (fun HT_ HW_ => ?_)
            generalize wz.drew = wy at BKF BKD HM HB hHeld ⊢
            refine pure_ (i := 0) (N := some 25) (v := ?_) (a' := ?_) (Go.Proofs.YthphgkhmeobadabX.bA 53 1) rfl rfl (any_of HT_.out (by kernel_rfl)) (fun _ _ _ h => h) (Or.inl ⟨by rfl, ?_⟩) ?_ ?_
            rotate_left
            · intro w'
              go_simp
              with_reducible rfl
            rotate_left
            · simp only [Act.put, List.setIfInBounds_toArray, List.set_cons_zero, List.set_cons_succ, i64_w, i32_w]
              rfl
            refine pure_ (i := 2) (N := some 27) (v := ?_) (a' := ?_) (Go.Proofs.YthphgkhmeobadabX.bA 53 5) rfl rfl (any_of HT_.out (by kernel_rfl)) (fun _ _ _ h => h) (Or.inl ⟨by rfl, ?_⟩) ?_ ?_
            rotate_left
            · intro w'
              go_simp
              with_reducible rfl
            rotate_left
            · simp only [Act.put, List.setIfInBounds_toArray, List.set_cons_zero, List.set_cons_succ, i64_w, i32_w]
              rfl
            refine take_ (i := 1) (N := some 26) (v := ?_) (a' := ?_) (Go.Proofs.YthphgkhmeobadabX.bA 53 7) rfl rfl (take_ofW HT_.out HW_.out (by kernel_rfl)) (fun _ _ _ h => h) (Or.inl ⟨by rfl, ?_⟩) hHeld ?_ ?_
            rotate_left
            · rintro w' ⟨s0, s1, s2, s3, s4⟩
              go_simp
              with_reducible rfl
            rotate_left
            · simp only [Act.put, List.setIfInBounds_toArray, List.set_cons_zero, List.set_cons_succ, i64_w, i32_w]
              rfl
            refine take_ (i := 3) (N := some 28) (v := ?_) (a' := ?_) (Go.Proofs.YthphgkhmeobadabX.bA 53 15) rfl rfl (take_ofW HT_.out HW_.out (by kernel_rfl)) (fun _ _ _ h => h) (Or.inl ⟨by rfl, ?_⟩) hHeld ?_ ?_
            rotate_left
            · rintro w' ⟨s0, s1, s2, s3, s4⟩
              go_simp
              with_reducible rfl
            rotate_left
            · simp only [Act.put, List.setIfInBounds_toArray, List.set_cons_zero, List.set_cons_succ, i64_w, i32_w]
              rfl
            refine pure_ (i := 4) (N := some 29) (v := ?_) (a' := ?_) (Go.Proofs.YthphgkhmeobadabX.bA 53 31) rfl rfl (any_of HT_.out (by kernel_rfl)) (fun _ _ _ h => h) (Or.inl ⟨by rfl, ?_⟩) ?_ ?_
            rotate_left
            · intro w'
              go_simp
              with_reducible rfl
            rotate_left
            · simp only [Act.put, List.setIfInBounds_toArray, List.set_cons_zero, List.set_cons_succ, i64_w, i32_w]
              rfl
            refine one_ (i := 5) (N := some 30) (Go.Proofs.YthphgkhmeobadabX.bA 53 63) rfl rfl (one_of HT_.out (by kernel_rfl)) (by decide) (fun K hK => ?_)
            refine goes_ Try.func47 (by kernel_rfl) rfl #[.int .i64 ((rd_T85 l0_1 x).f0), .int .i64 0, .int .i64 (wrap64 (a0_0 - 1))] (by rfl) rfl rfl (by (try simp only [List.map_toArray, List.map_cons, List.map_nil]); first | done | rfl) ?_
            with_reducible refine (impl_in.calls ((rd_T85 l0_1 x).f0) 0 (wrap64 (a0_0 - 1)) true _ HT1.out).mono ?_
            rintro e wn ⟨rfl, hd⟩
            have hb := hd.below
            clear hd
            refine ⟨_, rfl, ?_⟩
            have n0_ := Aside0.mk ((hb.block _ (blk_lt BKF.out)).trans BKF.out)
            have n1_ := Aside0.mk ((hb.block _ (blk_lt BKD.out)).trans BKD.out)
            have n2_ := Aside0.mk (HM.out.below hb)
            have n3_ := Aside0.mk (below_step HB.out hb)
            clear BKF BKD HM HB
            have BKF := n0_
            have BKD := n1_
            have HM := n2_
            have HB := n3_
            clear n0_ n1_ n2_ n3_ hb
            refine hK.out _ _ ⟨(blk_cell BKD.out 0).trans rfl, (blk_cell BKD.out 1).trans rfl, (blk_cell BKF.out 0).trans rfl, (blk_cell BKF.out 1).trans rfl, (blk_cell BKF.out 2).trans rfl⟩ (fun hHeld => ?_)
            clear hK K
            refine norm_ (a' := ?_) ?_ ?_
            rotate_left
            · show Act.put _ (some 30) _ = _
              simp only [Act.put, List.setIfInBounds_toArray, List.set_cons_zero, List.set_cons_succ, i64_w, i32_w]
              rfl
            refine pure_ (i := 6) (N := some 31) (v := ?_) (a' := ?_) (Go.Proofs.YthphgkhmeobadabX.bA 53 127) rfl rfl (any_of HT_.out (by kernel_rfl)) (fun _ _ _ h => h) (Or.inl ⟨by rfl, ?_⟩) ?_ ?_
            rotate_left
            · intro w'
              go_simp
              with_reducible rfl
            rotate_left
            · simp only [Act.put, List.setIfInBounds_toArray, List.set_cons_zero, List.set_cons_succ, i64_w, i32_w]
              rfl
            refine pure_ (i := 7) (N := some 32) (v := ?_) (a' := ?_) (Go.Proofs.YthphgkhmeobadabX.bA 53 255) rfl rfl (any_of HT_.out (by kernel_rfl)) (fun _ _ _ h => h) (Or.inl ⟨by rfl, ?_⟩) ?_ ?_
            rotate_left
            · intro w'
              go_simp
              with_reducible rfl
            rotate_left
            · simp only [Act.put, List.setIfInBounds_toArray, List.set_cons_zero, List.set_cons_succ, i64_w, i32_w]
              rfl
            refine pure_ (i := 8) (N := some 33) (v := ?_) (a' := ?_) (Go.Proofs.YthphgkhmeobadabX.bA 53 511) rfl rfl (any_of HT_.out (by kernel_rfl)) (fun _ _ _ h => h) (Or.inl ⟨by rfl, ?_⟩) ?_ ?_
            rotate_left
            · intro w'
              go_simp
              with_reducible rfl
            rotate_left
            · simp only [Act.put, List.setIfInBounds_toArray, List.set_cons_zero, List.set_cons_succ, i64_w, i32_w]
              rfl
            refine pure_ (i := 10) (N := some 35) (v := ?_) (a' := ?_) (Go.Proofs.YthphgkhmeobadabX.bA 53 1535) rfl rfl (any_of HT_.out (by kernel_rfl)) (fun _ _ _ h => h) (Or.inl ⟨by rfl, ?_⟩) ?_ ?_
            rotate_left
            · intro w'
              go_simp
              with_reducible rfl
            rotate_left
            · simp only [Act.put, List.setIfInBounds_toArray, List.set_cons_zero, List.set_cons_succ, i64_w, i32_w]
              rfl
            refine pure_ (i := 11) (N := some 36) (v := ?_) (a' := ?_) (Go.Proofs.YthphgkhmeobadabX.bA 53 3583) rfl rfl (any_of HT_.out (by kernel_rfl)) (fun _ _ _ h => h) (Or.inl ⟨by rfl, ?_⟩) ?_ ?_
            rotate_left
            · intro w'
              go_simp
              with_reducible rfl
            rotate_left
            · simp only [Act.put, List.setIfInBounds_toArray, List.set_cons_zero, List.set_cons_succ, i64_w, i32_w]
              rfl
            refine take_ (i := 9) (N := some 34) (v := ?_) (a' := ?_) (Go.Proofs.YthphgkhmeobadabX.bA 53 4095) rfl rfl (take_ofW HT_.out HW_.out (by kernel_rfl)) (fun _ _ _ h => h) (Or.inl ⟨by rfl, ?_⟩) hHeld ?_ ?_
            rotate_left
            · rintro w' ⟨s0, s1, s2, s3, s4⟩
              go_simp
              with_reducible rfl
            rotate_left
            · simp only [Act.put, List.setIfInBounds_toArray, List.set_cons_zero, List.set_cons_succ, i64_w, i32_w]
              rfl
            refine one_ (i := 12) (N := some 37) (Go.Proofs.YthphgkhmeobadabX.bA 53 8191) rfl rfl (one_of HT_.out (by kernel_rfl)) (by decide) (fun K hK => ?_)
            refine goes_ Try.func47 (by kernel_rfl) rfl #[.int .i64 ((rd_T85 l0_1 x).f1), .int .i64 0, .int .i64 (wrap64 (x + 1))] (by rfl) rfl rfl (by (try simp only [List.map_toArray, List.map_cons, List.map_nil]); first | done | rfl) ?_
            with_reducible refine (impl_in.calls ((rd_T85 l0_1 x).f1) 0 (wrap64 (x + 1)) false _ HT2.out).mono ?_
            rintro e wn ⟨rfl, hd⟩
            have hb := hd.below
            clear hd
            refine ⟨_, rfl, ?_⟩
            have n0_ := Aside0.mk ((hb.block _ (blk_lt BKF.out)).trans BKF.out)
            have n1_ := Aside0.mk ((hb.block _ (blk_lt BKD.out)).trans BKD.out)
            have n2_ := Aside0.mk (HM.out.below hb)
            have n3_ := Aside0.mk (below_step HB.out hb)
            clear BKF BKD HM HB
            have BKF := n0_
            have BKD := n1_
            have HM := n2_
            have HB := n3_
            clear n0_ n1_ n2_ n3_ hb
            refine hK.out _ _ ⟨(blk_cell BKD.out 0).trans rfl, (blk_cell BKD.out 1).trans rfl, (blk_cell BKF.out 0).trans rfl, (blk_cell BKF.out 1).trans rfl, (blk_cell BKF.out 2).trans rfl⟩ (fun hHeld => ?_)
            clear hK K
            refine norm_ (a' := ?_) ?_ ?_
            rotate_left
            · show Act.put _ (some 37) _ = _
              simp only [Act.put, List.setIfInBounds_toArray, List.set_cons_zero, List.set_cons_succ, i64_w, i32_w]
              rfl
            refine pure_ (i := 13) (N := some 38) (v := ?_) (a' := ?_) (Go.Proofs.YthphgkhmeobadabX.bA 53 16383) rfl rfl (any_of HT_.out (by kernel_rfl)) (fun _ _ _ h => h) (Or.inl ⟨by rfl, ?_⟩) ?_ ?_
            rotate_left
            · intro w'
              go_simp
              with_reducible rfl
            rotate_left
            · simp only [Act.put, List.setIfInBounds_toArray, List.set_cons_zero, List.set_cons_succ, i64_w, i32_w]
              rfl
            refine pure_ (i := 14) (N := some 39) (v := ?_) (a' := ?_) (Go.Proofs.YthphgkhmeobadabX.bA 53 32767) rfl rfl (any_of HT_.out (by kernel_rfl)) (fun _ _ _ h => h) (Or.inl ⟨by rfl, ?_⟩) ?_ ?_
            rotate_left
            · intro w'
              go_simp
              with_reducible rfl
            rotate_left
            · simp only [Act.put, List.setIfInBounds_toArray, List.set_cons_zero, List.set_cons_succ, i64_w, i32_w]
              rfl
            refine pure_ (i := 15) (N := some 40) (v := ?_) (a' := ?_) (Go.Proofs.YthphgkhmeobadabX.bA 53 65535) rfl rfl (any_of HT_.out (by kernel_rfl)) (fun _ _ _ h => h) (Or.inl ⟨by rfl, ?_⟩) ?_ ?_
            rotate_left
            · intro w'
              go_simp
              with_reducible rfl
            rotate_left
            · simp only [Act.put, List.setIfInBounds_toArray, List.set_cons_zero, List.set_cons_succ, i64_w, i32_w]
              rfl
            refine pure_ (i := 16) (N := some 41) (v := undef) (a' := ?_) (Go.Proofs.YthphgkhmeobadabX.bA 53 131071) rfl rfl (any_of HT_.out (by kernel_rfl)) (fun _ _ _ h => h) (Or.inr ⟨by rfl, rfl⟩) ?_ ?_
            rotate_left
            · simp only [Act.put, List.setIfInBounds_toArray, List.set_cons_zero, List.set_cons_succ, i64_w, i32_w]
              rfl
            refine pure_ (i := 17) (N := some 42) (v := undef) (a' := ?_) (Go.Proofs.YthphgkhmeobadabX.bA 53 262143) rfl rfl (any_of HT_.out (by kernel_rfl)) (fun _ _ _ h => h) (Or.inr ⟨by rfl, rfl⟩) ?_ ?_
            rotate_left
            · simp only [Act.put, List.setIfInBounds_toArray, List.set_cons_zero, List.set_cons_succ, i64_w, i32_w]
              rfl
            refine pure_ (i := 18) (N := some 43) (v := undef) (a' := ?_) (Go.Proofs.YthphgkhmeobadabX.bA 53 524287) rfl rfl (any_of HT_.out (by kernel_rfl)) (fun _ _ _ h => h) (Or.inr ⟨by rfl, rfl⟩) ?_ ?_
            rotate_left
            · simp only [Act.put, List.setIfInBounds_toArray, List.set_cons_zero, List.set_cons_succ, i64_w, i32_w]
              rfl
            refine pure_ (i := 19) (N := some 44) (v := undef) (a' := ?_) (Go.Proofs.YthphgkhmeobadabX.bA 53 1048575) rfl rfl (any_of HT_.out (by kernel_rfl)) (fun _ _ _ h => h) (Or.inr ⟨by rfl, rfl⟩) ?_ ?_
            rotate_left
            · simp only [Act.put, List.setIfInBounds_toArray, List.set_cons_zero, List.set_cons_succ, i64_w, i32_w]
              rfl
            refine pure_ (i := 20) (N := some 45) (v := undef) (a' := ?_) (Go.Proofs.YthphgkhmeobadabX.bA 53 2097151) rfl rfl (any_of HT_.out (by kernel_rfl)) (fun _ _ _ h => h) (Or.inr ⟨by rfl, rfl⟩) ?_ ?_
            rotate_left
            · simp only [Act.put, List.setIfInBounds_toArray, List.set_cons_zero, List.set_cons_succ, i64_w, i32_w]
              rfl
            refine pure_ (i := 21) (N := some 46) (v := undef) (a' := ?_) (Go.Proofs.YthphgkhmeobadabX.bA 53 4194303) rfl rfl (any_of HT_.out (by kernel_rfl)) (fun _ _ _ h => h) (Or.inr ⟨by rfl, rfl⟩) ?_ ?_
            rotate_left
            · simp only [Act.put, List.setIfInBounds_toArray, List.set_cons_zero, List.set_cons_succ, i64_w, i32_w]
              rfl
            refine pure_ (i := 22) (N := some 47) (v := ?_) (a' := ?_) (Go.Proofs.YthphgkhmeobadabX.bA 53 8388607) rfl rfl (any_of HT_.out (by kernel_rfl)) (fun _ _ _ h => h) (Or.inl ⟨by rfl, ?_⟩) ?_ ?_
            rotate_left
            · intro w'
              go_simp
              with_reducible rfl
            rotate_left
            · simp only [Act.put, List.setIfInBounds_toArray, List.set_cons_zero, List.set_cons_succ, i64_w, i32_w]
              rfl
            refine pure_ (i := 23) (N := some 48) (v := ?_) (a' := ?_) (Go.Proofs.YthphgkhmeobadabX.bA 53 16777215) rfl rfl (any_of HT_.out (by kernel_rfl)) (fun _ _ _ h => h) (Or.inl ⟨by rfl, ?_⟩) ?_ ?_
            rotate_left
            · intro w'
              go_simp
              with_reducible rfl
            rotate_left
            · simp only [Act.put, List.setIfInBounds_toArray, List.set_cons_zero, List.set_cons_succ, i64_w, i32_w]
              rfl
            refine pure_ (i := 24) (N := some 49) (v := undef) (a' := ?_) (Go.Proofs.YthphgkhmeobadabX.bA 53 33554431) rfl rfl (any_of HT_.out (by kernel_rfl)) (fun _ _ _ h => h) (Or.inr ⟨by rfl, rfl⟩) ?_ ?_
            rotate_left
            · simp only [Act.put, List.setIfInBounds_toArray, List.set_cons_zero, List.set_cons_succ, i64_w, i32_w]
              rfl
            refine pure_ (i := 25) (N := some 50) (v := undef) (a' := ?_) (Go.Proofs.YthphgkhmeobadabX.bA 53 67108863) rfl rfl (any_of HT_.out (by kernel_rfl)) (fun _ _ _ h => h) (Or.inr ⟨by rfl, rfl⟩) ?_ ?_
            rotate_left
            · simp only [Act.put, List.setIfInBounds_toArray, List.set_cons_zero, List.set_cons_succ, i64_w, i32_w]
              rfl
            refine pure_ (i := 26) (N := some 51) (v := undef) (a' := ?_) (Go.Proofs.YthphgkhmeobadabX.bA 53 134217727) rfl rfl (any_of HT_.out (by kernel_rfl)) (fun _ _ _ h => h) (Or.inr ⟨by rfl, rfl⟩) ?_ ?_
            rotate_left
            · simp only [Act.put, List.setIfInBounds_toArray, List.set_cons_zero, List.set_cons_succ, i64_w, i32_w]
              rfl
            refine pure_ (i := 27) (N := some 52) (v := undef) (a' := ?_) (Go.Proofs.YthphgkhmeobadabX.bA 53 268435455) rfl rfl (any_of HT_.out (by kernel_rfl)) (fun _ _ _ h => h) (Or.inr ⟨by rfl, rfl⟩) ?_ ?_
            rotate_left
            · simp only [Act.put, List.setIfInBounds_toArray, List.set_cons_zero, List.set_cons_succ, i64_w, i32_w]
              rfl
            refine pure_ (i := 28) (N := some 53) (v := undef) (a' := ?_) (Go.Proofs.YthphgkhmeobadabX.bA 53 536870911) rfl rfl (any_of HT_.out (by kernel_rfl)) (fun _ _ _ h => h) (Or.inr ⟨by rfl, rfl⟩) ?_ ?_
            rotate_left
            · simp only [Act.put, List.setIfInBounds_toArray, List.set_cons_zero, List.set_cons_succ, i64_w, i32_w]
              rfl
            refine pure_ (i := 29) (N := some 54) (v := ?_) (a' := ?_) (Go.Proofs.YthphgkhmeobadabX.bA 53 1073741823) rfl rfl (any_of HT_.out (by kernel_rfl)) (fun _ _ _ h => h) (Or.inl ⟨by rfl, ?_⟩) ?_ ?_
            rotate_left
            · intro w'
              go_simp
              with_reducible rfl
            rotate_left
            · simp only [Act.put, List.setIfInBounds_toArray, List.set_cons_zero, List.set_cons_succ, i64_w, i32_w]
              rfl
            refine pure_ (i := 30) (N := some 55) (v := ?_) (a' := ?_) (Go.Proofs.YthphgkhmeobadabX.bA 53 2147483647) rfl rfl (any_of HT_.out (by kernel_rfl)) (fun _ _ _ h => h) (Or.inl ⟨by rfl, ?_⟩) ?_ ?_
            rotate_left
            · intro w'
              go_simp
              with_reducible rfl
            rotate_left
            · simp only [Act.put, List.setIfInBounds_toArray, List.set_cons_zero, List.set_cons_succ, i64_w, i32_w]
              rfl
            refine pure_ (i := 31) (N := some 56) (v := undef) (a' := ?_) (Go.Proofs.YthphgkhmeobadabX.bA 53 4294967295) rfl rfl (any_of HT_.out (by kernel_rfl)) (fun _ _ _ h => h) (Or.inr ⟨by rfl, rfl⟩) ?_ ?_
            rotate_left
            · simp only [Act.put, List.setIfInBounds_toArray, List.set_cons_zero, List.set_cons_succ, i64_w, i32_w]
              rfl
            refine pure_ (i := 32) (N := some 57) (v := undef) (a' := ?_) (Go.Proofs.YthphgkhmeobadabX.bA 53 8589934591) rfl rfl (any_of HT_.out (by kernel_rfl)) (fun _ _ _ h => h) (Or.inr ⟨by rfl, rfl⟩) ?_ ?_
            rotate_left
            · simp only [Act.put, List.setIfInBounds_toArray, List.set_cons_zero, List.set_cons_succ, i64_w, i32_w]
              rfl
            refine pure_ (i := 33) (N := some 58) (v := undef) (a' := ?_) (Go.Proofs.YthphgkhmeobadabX.bA 53 17179869183) rfl rfl (any_of HT_.out (by kernel_rfl)) (fun _ _ _ h => h) (Or.inr ⟨by rfl, rfl⟩) ?_ ?_
            rotate_left
            · simp only [Act.put, List.setIfInBounds_toArray, List.set_cons_zero, List.set_cons_succ, i64_w, i32_w]
              rfl
            refine pure_ (i := 34) (N := some 59) (v := undef) (a' := ?_) (Go.Proofs.YthphgkhmeobadabX.bA 53 34359738367) rfl rfl (any_of HT_.out (by kernel_rfl)) (fun _ _ _ h => h) (Or.inr ⟨by rfl, rfl⟩) ?_ ?_
            rotate_left
            · simp only [Act.put, List.setIfInBounds_toArray, List.set_cons_zero, List.set_cons_succ, i64_w, i32_w]
              rfl
            refine pure_ (i := 35) (N := some 60) (v := undef) (a' := ?_) (Go.Proofs.YthphgkhmeobadabX.bA 53 68719476735) rfl rfl (any_of HT_.out (by kernel_rfl)) (fun _ _ _ h => h) (Or.inr ⟨by rfl, rfl⟩) ?_ ?_
            rotate_left
            · simp only [Act.put, List.setIfInBounds_toArray, List.set_cons_zero, List.set_cons_succ, i64_w, i32_w]
              rfl
            refine pure_ (i := 36) (N := some 61) (v := undef) (a' := ?_) (Go.Proofs.YthphgkhmeobadabX.bA 53 137438953471) rfl rfl (any_of HT_.out (by kernel_rfl)) (fun _ _ _ h => h) (Or.inr ⟨by rfl, rfl⟩) ?_ ?_
            rotate_left
            · simp only [Act.put, List.setIfInBounds_toArray, List.set_cons_zero, List.set_cons_succ, i64_w, i32_w]
              rfl
            refine pure_ (i := 37) (N := some 62) (v := undef) (a' := ?_) (Go.Proofs.YthphgkhmeobadabX.bA 53 274877906943) rfl rfl (any_of HT_.out (by kernel_rfl)) (fun _ _ _ h => h) (Or.inr ⟨by rfl, rfl⟩) ?_ ?_
            rotate_left
            · simp only [Act.put, List.setIfInBounds_toArray, List.set_cons_zero, List.set_cons_succ, i64_w, i32_w]
              rfl
            refine pure_ (i := 38) (N := some 63) (v := ?_) (a' := ?_) (Go.Proofs.YthphgkhmeobadabX.bA 53 549755813887) rfl rfl (any_of HT_.out (by kernel_rfl)) (fun _ _ _ h => h) (Or.inl ⟨by rfl, ?_⟩) ?_ ?_
            rotate_left
            · intro w'
              go_simp
              with_reducible rfl
            rotate_left
            · simp only [Act.put, List.setIfInBounds_toArray, List.set_cons_zero, List.set_cons_succ, i64_w, i32_w]
              rfl
            refine pure_ (i := 39) (N := some 64) (v := ?_) (a' := ?_) (Go.Proofs.YthphgkhmeobadabX.bA 53 1099511627775) rfl rfl (any_of HT_.out (by kernel_rfl)) (fun _ _ _ h => h) (Or.inl ⟨by rfl, ?_⟩) ?_ ?_
            rotate_left
            · intro w'
              go_simp
              with_reducible rfl
            rotate_left
            · simp only [Act.put, List.setIfInBounds_toArray, List.set_cons_zero, List.set_cons_succ, i64_w, i32_w]
              rfl
            refine pure_ (i := 40) (N := some 65) (v := undef) (a' := ?_) (Go.Proofs.YthphgkhmeobadabX.bA 53 2199023255551) rfl rfl (any_of HT_.out (by kernel_rfl)) (fun _ _ _ h => h) (Or.inr ⟨by rfl, rfl⟩) ?_ ?_
            rotate_left
            · simp only [Act.put, List.setIfInBounds_toArray, List.set_cons_zero, List.set_cons_succ, i64_w, i32_w]
              rfl
            refine pure_ (i := 41) (N := some 66) (v := undef) (a' := ?_) (Go.Proofs.YthphgkhmeobadabX.bA 53 4398046511103) rfl rfl (any_of HT_.out (by kernel_rfl)) (fun _ _ _ h => h) (Or.inr ⟨by rfl, rfl⟩) ?_ ?_
            rotate_left
            · simp only [Act.put, List.setIfInBounds_toArray, List.set_cons_zero, List.set_cons_succ, i64_w, i32_w]
              rfl
            refine pure_ (i := 42) (N := some 67) (v := undef) (a' := ?_) (Go.Proofs.YthphgkhmeobadabX.bA 53 8796093022207) rfl rfl (any_of HT_.out (by kernel_rfl)) (fun _ _ _ h => h) (Or.inr ⟨by rfl, rfl⟩) ?_ ?_
            rotate_left
            · simp only [Act.put, List.setIfInBounds_toArray, List.set_cons_zero, List.set_cons_succ, i64_w, i32_w]
              rfl
            refine pure_ (i := 43) (N := some 68) (v := undef) (a' := ?_) (Go.Proofs.YthphgkhmeobadabX.bA 53 17592186044415) rfl rfl (any_of HT_.out (by kernel_rfl)) (fun _ _ _ h => h) (Or.inr ⟨by rfl, rfl⟩) ?_ ?_
            rotate_left
            · simp only [Act.put, List.setIfInBounds_toArray, List.set_cons_zero, List.set_cons_succ, i64_w, i32_w]
              rfl
            refine pure_ (i := 44) (N := some 69) (v := undef) (a' := ?_) (Go.Proofs.YthphgkhmeobadabX.bA 53 35184372088831) rfl rfl (any_of HT_.out (by kernel_rfl)) (fun _ _ _ h => h) (Or.inr ⟨by rfl, rfl⟩) ?_ ?_
            rotate_left
            · simp only [Act.put, List.setIfInBounds_toArray, List.set_cons_zero, List.set_cons_succ, i64_w, i32_w]
              rfl
            refine pure_ (i := 45) (N := some 70) (v := undef) (a' := ?_) (Go.Proofs.YthphgkhmeobadabX.bA 53 70368744177663) rfl rfl (any_of HT_.out (by kernel_rfl)) (fun _ _ _ h => h) (Or.inr ⟨by rfl, rfl⟩) ?_ ?_
            rotate_left
            · simp only [Act.put, List.setIfInBounds_toArray, List.set_cons_zero, List.set_cons_succ, i64_w, i32_w]
              rfl
            refine pure_ (i := 46) (N := some 71) (v := undef) (a' := ?_) (Go.Proofs.YthphgkhmeobadabX.bA 53 140737488355327) rfl rfl (any_of HT_.out (by kernel_rfl)) (fun _ _ _ h => h) (Or.inr ⟨by rfl, rfl⟩) ?_ ?_
            rotate_left
            · simp only [Act.put, List.setIfInBounds_toArray, List.set_cons_zero, List.set_cons_succ, i64_w, i32_w]
              rfl
            refine pure_ (i := 47) (N := some 72) (v := ?_) (a' := ?_) (Go.Proofs.YthphgkhmeobadabX.bA 53 281474976710655) rfl rfl (any_of HT_.out (by kernel_rfl)) (fun _ _ _ h => h) (Or.inl ⟨by rfl, ?_⟩) ?_ ?_
            rotate_left
            · intro w'
              go_simp
              with_reducible rfl
            rotate_left
            · simp only [Act.put, List.setIfInBounds_toArray, List.set_cons_zero, List.set_cons_succ, i64_w, i32_w]
              rfl
            refine pure_ (i := 48) (N := some 73) (v := ?_) (a' := ?_) (Go.Proofs.YthphgkhmeobadabX.bA 53 562949953421311) rfl rfl (any_of HT_.out (by kernel_rfl)) (fun _ _ _ h => h) (Or.inl ⟨by rfl, ?_⟩) ?_ ?_
            rotate_left
            · intro w'
              go_simp
              with_reducible rfl
            rotate_left
            · simp only [Act.put, List.setIfInBounds_toArray, List.set_cons_zero, List.set_cons_succ, i64_w, i32_w]
              rfl
            refine pure_ (i := 49) (N := some 74) (v := undef) (a' := ?_) (Go.Proofs.YthphgkhmeobadabX.bA 53 1125899906842623) rfl rfl (any_of HT_.out (by kernel_rfl)) (fun _ _ _ h => h) (Or.inr ⟨by rfl, rfl⟩) ?_ ?_
            rotate_left
            · simp only [Act.put, List.setIfInBounds_toArray, List.set_cons_zero, List.set_cons_succ, i64_w, i32_w]
              rfl
            refine pure_ (i := 50) (N := some 75) (v := undef) (a' := ?_) (Go.Proofs.YthphgkhmeobadabX.bA 53 2251799813685247) rfl rfl (any_of HT_.out (by kernel_rfl)) (fun _ _ _ h => h) (Or.inr ⟨by rfl, rfl⟩) ?_ ?_
            rotate_left
            · simp only [Act.put, List.setIfInBounds_toArray, List.set_cons_zero, List.set_cons_succ, i64_w, i32_w]
              rfl
            refine pure_ (i := 51) (N := some 76) (v := undef) (a' := ?_) (Go.Proofs.YthphgkhmeobadabX.bA 53 4503599627370495) rfl rfl (any_of HT_.out (by kernel_rfl)) (fun _ _ _ h => h) (Or.inr ⟨by rfl, rfl⟩) ?_ ?_
            rotate_left
            · simp only [Act.put, List.setIfInBounds_toArray, List.set_cons_zero, List.set_cons_succ, i64_w, i32_w]
              rfl
            refine pure_ (i := 52) (N := some 77) (v := ?_) (a' := ?_) (Go.Proofs.YthphgkhmeobadabX.bA 53 9007199254740991) rfl rfl (any_of HT_.out (by kernel_rfl)) (fun _ _ _ h => h) (Or.inl ⟨by rfl, ?_⟩) ?_ ?_
            rotate_left
            · intro w'
              go_simp
              with_reducible rfl
            rotate_left
            · simp only [Act.put, List.setIfInBounds_toArray, List.set_cons_zero, List.set_cons_succ, i64_w, i32_w]
              rfl
            refine done_ (done_of HT_.out (by kernel_rfl)) ?_
            try go_wp2
            go_ret
            exact ⟨rfl, HB.out⟩
          · skip
            have HT1 := Aside0.mk ht1
            have HT2 := Aside0.mk ht2
            have HT3 := Aside0.mk ht3
            clear ht1 ht2 ht3
            have hr := HGO.out
            rw [if_neg (by decide)] at hr
            obtain rfl := Option.some.inj hr
            clear hr
            refine start_ (n := 53) (S := fun w' => w'.cell? ⟨gd, 0, none⟩ = some (.int .i64 a0_0) ∧ w'.cell? ⟨gd, 1, none⟩ = some (.slice (some ad) l0_1.length c0_1) ∧ w'.cell? ⟨gf, 0, none⟩ = some (.int .i64 ((rd_T85 l0_1 x).f0)) ∧ w'.cell? ⟨gf, 1, none⟩ = some (.int .i64 ((rd_T85 l0_1 x).f1)) ∧ w'.cell? ⟨gf, 2, none⟩ = some (.int .i64 ((rd_T85 l0_1 x).f2))) (ds := []) #[false, false, false, false, false, false, false, false, false, false, false, false, false, false, false, false, false, false, false, false, false, false, false, false, false, false, false, false, false, false, false, false, false, false, false, false, false, false, false, false, false, false, false, false, false, false, false, false, false, false, false, false, false] (by kernel_rfl) rfl rfl ⟨(blk_cell BKD.out 0).trans rfl, (blk_cell BKD.out 1).trans rfl, (blk_cell BKF.out 0).trans rfl, (blk_cell BKF.out 1).trans rfl, (blk_cell BKF.out 2).trans rfl⟩ (fun hHeld => ?_)
            refine with_tabW impl_DiagramValid.tab7 impl_DiagramValid.bits7 (fun HT_ HW_ => ?_)
            generalize wz.drew = wy at BKF BKD HM HB hHeld ⊢
            refine pure_ (i := 0) (N := some 25) (v := ?_) (a' := ?_) (Go.Proofs.YthphgkhmeobadabX.bA 53 1) rfl rfl (any_of HT_.out (by kernel_rfl)) (fun _ _ _ h => h) (Or.inl ⟨by rfl, ?_⟩) ?_ ?_
            rotate_left
            · intro w'
              go_simp
              with_reducible rfl
            rotate_left
            · simp only [Act.put, List.setIfInBounds_toArray, List.set_cons_zero, List.set_cons_succ, i64_w, i32_w]
              rfl
            refine pure_ (i := 2) (N := some 27) (v := ?_) (a' := ?_) (Go.Proofs.YthphgkhmeobadabX.bA 53 5) rfl rfl (any_of HT_.out (by kernel_rfl)) (fun _ _ _ h => h) (Or.inl ⟨by rfl, ?_⟩) ?_ ?_
            rotate_left
            · intro w'
              go_simp
              with_reducible rfl
            rotate_left
            · simp only [Act.put, List.setIfInBounds_toArray, List.set_cons_zero, List.set_cons_succ, i64_w, i32_w]
              rfl
            refine take_ (i := 1) (N := some 26) (v := ?_) (a' := ?_) (Go.Proofs.YthphgkhmeobadabX.bA 53 7) rfl rfl (take_ofW HT_.out HW_.out (by kernel_rfl)) (fun _ _ _ h => h) (Or.inl ⟨by rfl, ?_⟩) hHeld ?_ ?_
            rotate_left
            · rintro w' ⟨s0, s1, s2, s3, s4⟩
              go_simp
              with_reducible rfl
            rotate_left
            · simp only [Act.put, List.setIfInBounds_toArray, List.set_cons_zero, List.set_cons_succ, i64_w, i32_w]
              rfl
            refine take_ (i := 3) (N := some 28) (v := ?_) (a' := ?_) (Go.Proofs.YthphgkhmeobadabX.bA 53 15) rfl rfl (take_ofW HT_.out HW_.out (by kernel_rfl)) (fun _ _ _ h => h) (Or.inl ⟨by rfl, ?_⟩) hHeld ?_ ?_
            rotate_left
            · rintro w' ⟨s0, s1, s2, s3, s4⟩
              go_simp
              with_reducible rfl
            rotate_left
            · simp only [Act.put, List.setIfInBounds_toArray, List.set_cons_zero, List.set_cons_succ, i64_w, i32_w]
              rfl
            refine pure_ (i := 4) (N := some 29) (v := ?_) (a' := ?_) (Go.Proofs.YthphgkhmeobadabX.bA 53 31) rfl rfl (any_of HT_.out (by kernel_rfl)) (fun _ _ _ h => h) (Or.inl ⟨by rfl, ?_⟩) ?_ ?_
            rotate_left
            · intro w'
              go_simp
              with_reducible rfl
            rotate_left
            · simp only [Act.put, List.setIfInBounds_toArray, List.set_cons_zero, List.set_cons_succ, i64_w, i32_w]
              rfl
            refine one_ (i := 5) (N := some 30) (Go.Proofs.YthphgkhmeobadabX.bA 53 63) rfl rfl (one_of HT_.out (by kernel_rfl)) (by decide) (fun K hK => ?_)
            refine goes_ Try.func47 (by kernel_rfl) rfl #[.int .i64 ((rd_T85 l0_1 x).f0), .int .i64 0, .int .i64 (wrap64 (a0_0 - 1))] (by rfl) rfl rfl (by (try simp only [List.map_toArray, List.map_cons, List.map_nil]); first | done | rfl) ?_
            with_reducible refine (impl_in.calls ((rd_T85 l0_1 x).f0) 0 (wrap64 (a0_0 - 1)) true _ HT1.out).mono ?_
            rintro e wn ⟨rfl, hd⟩
            have hb := hd.below
            clear hd
            refine ⟨_, rfl, ?_⟩
            have n0_ := Aside0.mk ((hb.block _ (blk_lt BKF.out)).trans BKF.out)
            have n1_ := Aside0.mk ((hb.block _ (blk_lt BKD.out)).trans BKD.out)
            have n2_ := Aside0.mk (HM.out.below hb)
            have n3_ := Aside0.mk (below_step HB.out hb)
            clear BKF BKD HM HB
            have BKF := n0_
            have BKD := n1_
            have HM := n2_
            have HB := n3_
            clear n0_ n1_ n2_ n3_ hb
            refine hK.out _ _ ⟨(blk_cell BKD.out 0).trans rfl, (blk_cell BKD.out 1).trans rfl, (blk_cell BKF.out 0).trans rfl, (blk_cell BKF.out 1).trans rfl, (blk_cell BKF.out 2).trans rfl⟩ (fun hHeld => ?_)
            clear hK K
            refine norm_ (a' := ?_) ?_ ?_
            rotate_left
            · show Act.put _ (some 30) _ = _
              simp only [Act.put, List.setIfInBounds_toArray, List.set_cons_zero, List.set_cons_succ, i64_w, i32_w]
              rfl
            refine pure_ (i := 6) (N := some 31) (v := ?_) (a' := ?_) (Go.Proofs.YthphgkhmeobadabX.bA 53 127) rfl rfl (any_of HT_.out (by kernel_rfl)) (fun _ _ _ h => h) (Or.inl ⟨by rfl, ?_⟩) ?_ ?_
            rotate_left
            · intro w'
              go_simp
              with_reducible rfl
            rotate_left
            · simp only [Act.put, List.setIfInBounds_toArray, List.set_cons_zero, List.set_cons_succ, i64_w, i32_w]
              rfl
            refine pure_ (i := 7) (N := some 32) (v := ?_) (a' := ?_) (Go.Proofs.YthphgkhmeobadabX.bA 53 255) rfl rfl (any_of HT_.out (by kernel_rfl)) (fun _ _ _ h => h) (Or.inl ⟨by rfl, ?_⟩) ?_ ?_
            rotate_left
            · intro w'
              go_simp
              with_reducible rfl
            rotate_left
            · simp only [Act.put, List.setIfInBounds_toArray, List.set_cons_zero, List.set_cons_succ, i64_w, i32_w]
              rfl
            refine pure_ (i := 8) (N := some 33) (v := ?_) (a' := ?_) (Go.Proofs.YthphgkhmeobadabX.bA 53 511) rfl rfl (any_of HT_.out (by kernel_rfl)) (fun _ _ _ h => h) (Or.inl ⟨by rfl, ?_⟩) ?_ ?_
            rotate_left
            · intro w'
              go_simp
              with_reducible rfl
            rotate_left
            · simp only [Act.put, List.setIfInBounds_toArray, List.set_cons_zero, List.set_cons_succ, i64_w, i32_w]
              rfl
            refine pure_ (i := 10) (N := some 35) (v := ?_) (a' := ?_) (Go.Proofs.YthphgkhmeobadabX.bA 53 1535) rfl rfl (any_of HT_.out (by kernel_rfl)) (fun _ _ _ h => h) (Or.inl ⟨by rfl, ?_⟩) ?_ ?_
            rotate_left
            · intro w'
              go_simp
              with_reducible rfl
            rotate_left
            · simp only [Act.put, List.setIfInBounds_toArray, List.set_cons_zero, List.set_cons_succ, i64_w, i32_w]
              rfl
            refine pure_ (i := 11) (N := some 36) (v := ?_) (a' := ?_) (Go.Proofs.YthphgkhmeobadabX.bA 53 3583) rfl rfl (any_of HT_.out (by kernel_rfl)) (fun _ _ _ h => h) (Or.inl ⟨by rfl, ?_⟩) ?_ ?_
            rotate_left
            · intro w'
              go_simp
              with_reducible rfl
            rotate_left
            · simp only [Act.put, List.setIfInBounds_toArray, List.set_cons_zero, List.set_cons_succ, i64_w, i32_w]
              rfl
            refine take_ (i := 9) (N := some 34) (v := ?_) (a' := ?_) (Go.Proofs.YthphgkhmeobadabX.bA 53 4095) rfl rfl (take_ofW HT_.out HW_.out (by kernel_rfl)) (fun _ _ _ h => h) (Or.inl ⟨by rfl, ?_⟩) hHeld ?_ ?_
            rotate_left
            · rintro w' ⟨s0, s1, s2, s3, s4⟩
              go_simp
              with_reducible rfl
            rotate_left
            · simp only [Act.put, List.setIfInBounds_toArray, List.set_cons_zero, List.set_cons_succ, i64_w, i32_w]
              rfl
            refine one_ (i := 12) (N := some 37) (Go.Proofs.YthphgkhmeobadabX.bA 53 8191) rfl rfl (one_of HT_.out (by kernel_rfl)) (by decide) (fun K hK => ?_)
            refine goes_ Try.func47 (by kernel_rfl) rfl #[.int .i64 ((rd_T85 l0_1 x).f1), .int .i64 0, .int .i64 (wrap64 (x + 1))] (by rfl) rfl rfl (by (try simp only [List.map_toArray, List.map_cons, List.map_nil]); first | done | rfl) ?_
            with_reducible refine (impl_in.calls ((rd_T85 l0_1 x).f1) 0 (wrap64 (x + 1)) true _ HT2.out).mono ?_
            rintro e wn ⟨rfl, hd⟩
            have hb := hd.below
            clear hd
            refine ⟨_, rfl, ?_⟩
            have n0_ := Aside0.mk ((hb.block _ (blk_lt BKF.out)).trans BKF.out)
            have n1_ := Aside0.mk ((hb.block _ (blk_lt BKD.out)).trans BKD.out)
            have n2_ := Aside0.mk (HM.out.below hb)
            have n3_ := Aside0.mk (below_step HB.out hb)
            clear BKF BKD HM HB
            have BKF := n0_
            have BKD := n1_
            have HM := n2_
            have HB := n3_
            clear n0_ n1_ n2_ n3_ hb
            refine hK.out _ _ ⟨(blk_cell BKD.out 0).trans rfl, (blk_cell BKD.out 1).trans rfl, (blk_cell BKF.out 0).trans rfl, (blk_cell BKF.out 1).trans rfl, (blk_cell BKF.out 2).trans rfl⟩ (fun hHeld => ?_)
            clear hK K
            refine norm_ (a' := ?_) ?_ ?_
            rotate_left
            · show Act.put _ (some 37) _ = _
              simp only [Act.put, List.setIfInBounds_toArray, List.set_cons_zero, List.set_cons_succ, i64_w, i32_w]
              rfl
            refine pure_ (i := 13) (N := some 38) (v := ?_) (a' := ?_) (Go.Proofs.YthphgkhmeobadabX.bA 53 16383) rfl rfl (any_of HT_.out (by kernel_rfl)) (fun _ _ _ h => h) (Or.inl ⟨by rfl, ?_⟩) ?_ ?_
            rotate_left
            · intro w'
              go_simp
              with_reducible rfl
            rotate_left
            · simp only [Act.put, List.setIfInBounds_toArray, List.set_cons_zero, List.set_cons_succ, i64_w, i32_w]
              rfl
            refine pure_ (i := 14) (N := some 39) (v := ?_) (a' := ?_) (Go.Proofs.YthphgkhmeobadabX.bA 53 32767) rfl rfl (any_of HT_.out (by kernel_rfl)) (fun _ _ _ h => h) (Or.inl ⟨by rfl, ?_⟩) ?_ ?_
            rotate_left
            · intro w'
              go_simp
              with_reducible rfl
            rotate_left
            · simp only [Act.put, List.setIfInBounds_toArray, List.set_cons_zero, List.set_cons_succ, i64_w, i32_w]
              rfl
            refine pure_ (i := 15) (N := some 40) (v := ?_) (a' := ?_) (Go.Proofs.YthphgkhmeobadabX.bA 53 65535) rfl rfl (any_of HT_.out (by kernel_rfl)) (fun _ _ _ h => h) (Or.inl ⟨by rfl, ?_⟩) ?_ ?_
            rotate_left
            · intro w'
              go_simp
              with_reducible rfl
            rotate_left
            · simp only [Act.put, List.setIfInBounds_toArray, List.set_cons_zero, List.set_cons_succ, i64_w, i32_w]
              rfl
            refine pure_ (i := 16) (N := some 41) (v := ?_) (a' := ?_) (Go.Proofs.YthphgkhmeobadabX.bA 53 131071) rfl rfl (any_of HT_.out (by kernel_rfl)) (fun _ _ _ h => h) (Or.inl ⟨by rfl, ?_⟩) ?_ ?_
            rotate_left
            · intro w'
              go_simp
              with_reducible rfl
            rotate_left
            · simp only [Act.put, List.setIfInBounds_toArray, List.set_cons_zero, List.set_cons_succ, i64_w, i32_w]
              rfl
            refine pure_ (i := 18) (N := some 43) (v := ?_) (a' := ?_) (Go.Proofs.YthphgkhmeobadabX.bA 53 393215) rfl rfl (any_of HT_.out (by kernel_rfl)) (fun _ _ _ h => h) (Or.inl ⟨by rfl, ?_⟩) ?_ ?_
            rotate_left
            · intro w'
              go_simp
              with_reducible rfl
            rotate_left
            · simp only [Act.put, List.setIfInBounds_toArray, List.set_cons_zero, List.set_cons_succ, i64_w, i32_w]
              rfl
            refine pure_ (i := 19) (N := some 44) (v := ?_) (a' := ?_) (Go.Proofs.YthphgkhmeobadabX.bA 53 917503) rfl rfl (any_of HT_.out (by kernel_rfl)) (fun _ _ _ h => h) (Or.inl ⟨by rfl, ?_⟩) ?_ ?_
            rotate_left
            · intro w'
              go_simp
              with_reducible rfl
            rotate_left
            · simp only [Act.put, List.setIfInBounds_toArray, List.set_cons_zero, List.set_cons_succ, i64_w, i32_w]
              rfl
            refine take_ (i := 17) (N := some 42) (v := ?_) (a' := ?_) (Go.Proofs.YthphgkhmeobadabX.bA 53 1048575) rfl rfl (take_ofW HT_.out HW_.out (by kernel_rfl)) (fun _ _ _ h => h) (Or.inl ⟨by rfl, ?_⟩) hHeld ?_ ?_
            rotate_left
            · rintro w' ⟨s0, s1, s2, s3, s4⟩
              go_simp
              with_reducible rfl
            rotate_left
            · simp only [Act.put, List.setIfInBounds_toArray, List.set_cons_zero, List.set_cons_succ, i64_w, i32_w]
              rfl
            refine one_ (i := 20) (N := some 45) (Go.Proofs.YthphgkhmeobadabX.bA 53 2097151) rfl rfl (one_of HT_.out (by kernel_rfl)) (by decide) (fun K hK => ?_)
            refine goes_ Try.func47 (by kernel_rfl) rfl #[.int .i64 ((rd_T85 l0_1 x).f2), .int .i64 0, .int .i64 (wrap64 (x + 1))] (by rfl) rfl rfl (by (try simp only [List.map_toArray, List.map_cons, List.map_nil]); first | done | rfl) ?_
            with_reducible refine (impl_in.calls ((rd_T85 l0_1 x).f2) 0 (wrap64 (x + 1)) false _ HT3.out).mono ?_
            rintro e wn ⟨rfl, hd⟩
            have hb := hd.below
            clear hd
            refine ⟨_, rfl, ?_⟩
            have n0_ := Aside0.mk ((hb.block _ (blk_lt BKF.out)).trans BKF.out)
            have n1_ := Aside0.mk ((hb.block _ (blk_lt BKD.out)).trans BKD.out)
            have n2_ := Aside0.mk (HM.out.below hb)
            have n3_ := Aside0.mk (below_step HB.out hb)
            clear BKF BKD HM HB
            have BKF := n0_
            have BKD := n1_
            have HM := n2_
            have HB := n3_
            clear n0_ n1_ n2_ n3_ hb
            refine hK.out _ _ ⟨(blk_cell BKD.out 0).trans rfl, (blk_cell BKD.out 1).trans rfl, (blk_cell BKF.out 0).trans rfl, (blk_cell BKF.out 1).trans rfl, (blk_cell BKF.out 2).trans rfl⟩ (fun hHeld => ?_)
            clear hK K
            refine norm_ (a' := ?_) ?_ ?_
            rotate_left
            · show Act.put _ (some 45) _ = _
              simp only [Act.put, List.setIfInBounds_toArray, List.set_cons_zero, List.set_cons_succ, i64_w, i32_w]
              rfl
            refine pure_ (i := 21) (N := some 46) (v := ?_) (a' := ?_) (Go.Proofs.YthphgkhmeobadabX.bA 53 4194303) rfl rfl (any_of HT_.out (by kernel_rfl)) (fun _ _ _ h => h) (Or.inl ⟨by rfl, ?_⟩) ?_ ?_
            rotate_left
            · intro w'
              go_simp
              with_reducible rfl
            rotate_left
            · simp only [Act.put, List.setIfInBounds_toArray, List.set_cons_zero, List.set_cons_succ, i64_w, i32_w]
              rfl
            refine pure_ (i := 22) (N := some 47) (v := ?_) (a' := ?_) (Go.Proofs.YthphgkhmeobadabX.bA 53 8388607) rfl rfl (any_of HT_.out (by kernel_rfl)) (fun _ _ _ h => h) (Or.inl ⟨by rfl, ?_⟩) ?_ ?_
            rotate_left
            · intro w'
              go_simp
              with_reducible rfl
            rotate_left
            · simp only [Act.put, List.setIfInBounds_toArray, List.set_cons_zero, List.set_cons_succ, i64_w, i32_w]
              rfl
            refine pure_ (i := 23) (N := some 48) (v := ?_) (a' := ?_) (Go.Proofs.YthphgkhmeobadabX.bA 53 16777215) rfl rfl (any_of HT_.out (by kernel_rfl)) (fun _ _ _ h => h) (Or.inl ⟨by rfl, ?_⟩) ?_ ?_
            rotate_left
            · intro w'
              go_simp
              with_reducible rfl
            rotate_left
            · simp only [Act.put, List.setIfInBounds_toArray, List.set_cons_zero, List.set_cons_succ, i64_w, i32_w]
              rfl
            refine pure_ (i := 24) (N := some 49) (v := undef) (a' := ?_) (Go.Proofs.YthphgkhmeobadabX.bA 53 33554431) rfl rfl (any_of HT_.out (by kernel_rfl)) (fun _ _ _ h => h) (Or.inr ⟨by rfl, rfl⟩) ?_ ?_
            rotate_left
            · simp only [Act.put, List.setIfInBounds_toArray, List.set_cons_zero, List.set_cons_succ, i64_w, i32_w]
              rfl
            refine pure_ (i := 25) (N := some 50) (v := undef) (a' := ?_) (Go.Proofs.YthphgkhmeobadabX.bA 53 67108863) rfl rfl (any_of HT_.out (by kernel_rfl)) (fun _ _ _ h => h) (Or.inr ⟨by rfl, rfl⟩) ?_ ?_
            rotate_left
            · simp only [Act.put, List.setIfInBounds_toArray, List.set_cons_zero, List.set_cons_succ, i64_w, i32_w]
              rfl
            refine pure_ (i := 26) (N := some 51) (v := undef) (a' := ?_) (Go.Proofs.YthphgkhmeobadabX.bA 53 134217727) rfl rfl (any_of HT_.out (by kernel_rfl)) (fun _ _ _ h => h) (Or.inr ⟨by rfl, rfl⟩) ?_ ?_
            rotate_left
            · simp only [Act.put, List.setIfInBounds_toArray, List.set_cons_zero, List.set_cons_succ, i64_w, i32_w]
              rfl
            refine pure_ (i := 27) (N := some 52) (v := undef) (a' := ?_) (Go.Proofs.YthphgkhmeobadabX.bA 53 268435455) rfl rfl (any_of HT_.out (by kernel_rfl)) (fun _ _ _ h => h) (Or.inr ⟨by rfl, rfl⟩) ?_ ?_
            rotate_left
            · simp only [Act.put, List.setIfInBounds_toArray, List.set_cons_zero, List.set_cons_succ, i64_w, i32_w]
              rfl
            refine pure_ (i := 28) (N := some 53) (v := undef) (a' := ?_) (Go.Proofs.YthphgkhmeobadabX.bA 53 536870911) rfl rfl (any_of HT_.out (by kernel_rfl)) (fun _ _ _ h => h) (Or.inr ⟨by rfl, rfl⟩) ?_ ?_
            rotate_left
            · simp only [Act.put, List.setIfInBounds_toArray, List.set_cons_zero, List.set_cons_succ, i64_w, i32_w]
              rfl
            refine pure_ (i := 29) (N := some 54) (v := ?_) (a' := ?_) (Go.Proofs.YthphgkhmeobadabX.bA 53 1073741823) rfl rfl (any_of HT_.out (by kernel_rfl)) (fun _ _ _ h => h) (Or.inl ⟨by rfl, ?_⟩) ?_ ?_
            rotate_left
            · intro w'
              go_simp
              with_reducible rfl
            rotate_left
            · simp only [Act.put, List.setIfInBounds_toArray, List.set_cons_zero, List.set_cons_succ, i64_w, i32_w]
              rfl
            refine pure_ (i := 30) (N := some 55) (v := ?_) (a' := ?_) (Go.Proofs.YthphgkhmeobadabX.bA 53 2147483647) rfl rfl (any_of HT_.out (by kernel_rfl)) (fun _ _ _ h => h) (Or.inl ⟨by rfl, ?_⟩) ?_ ?_
            rotate_left
            · intro w'
              go_simp
              with_reducible rfl
            rotate_left
            · simp only [Act.put, List.setIfInBounds_toArray, List.set_cons_zero, List.set_cons_succ, i64_w, i32_w]
              rfl
            refine pure_ (i := 31) (N := some 56) (v := undef) (a' := ?_) (Go.Proofs.YthphgkhmeobadabX.bA 53 4294967295) rfl rfl (any_of HT_.out (by kernel_rfl)) (fun _ _ _ h => h) (Or.inr ⟨by rfl, rfl⟩) ?_ ?_
            rotate_left
            · simp only [Act.put, List.setIfInBounds_toArray, List.set_cons_zero, List.set_cons_succ, i64_w, i32_w]
              rfl
            refine pure_ (i := 32) (N := some 57) (v := undef) (a' := ?_) (Go.Proofs.YthphgkhmeobadabX.bA 53 8589934591) rfl rfl (any_of HT_.out (by kernel_rfl)) (fun _ _ _ h => h) (Or.inr ⟨by rfl, rfl⟩) ?_ ?_
            rotate_left
            · simp only [Act.put, List.setIfInBounds_toArray, List.set_cons_zero, List.set_cons_succ, i64_w, i32_w]
              rfl
            refine pure_ (i := 33) (N := some 58) (v := undef) (a' := ?_) (Go.Proofs.YthphgkhmeobadabX.bA 53 17179869183) rfl rfl (any_of HT_.out (by kernel_rfl)) (fun _ _ _ h => h) (Or.inr ⟨by rfl, rfl⟩) ?_ ?_
            rotate_left
            · simp only [Act.put, List.setIfInBounds_toArray, List.set_cons_zero, List.set_cons_succ, i64_w, i32_w]
              rfl
            refine pure_ (i := 34) (N := some 59) (v := undef) (a' := ?_) (Go.Proofs.YthphgkhmeobadabX.bA 53 34359738367) rfl rfl (any_of HT_.out (by kernel_rfl)) (fun _ _ _ h => h) (Or.inr ⟨by rfl, rfl⟩) ?_ ?_
            rotate_left
            · simp only [Act.put, List.setIfInBounds_toArray, List.set_cons_zero, List.set_cons_succ, i64_w, i32_w]
              rfl
            refine pure_ (i := 35) (N := some 60) (v := undef) (a' := ?_) (Go.Proofs.YthphgkhmeobadabX.bA 53 68719476735) rfl rfl (any_of HT_.out (by kernel_rfl)) (fun _ _ _ h => h) (Or.inr ⟨by rfl, rfl⟩) ?_ ?_
            rotate_left
            · simp only [Act.put, List.setIfInBounds_toArray, List.set_cons_zero, List.set_cons_succ, i64_w, i32_w]
              rfl
            refine pure_ (i := 36) (N := some 61) (v := undef) (a' := ?_) (Go.Proofs.YthphgkhmeobadabX.bA 53 137438953471) rfl rfl (any_of HT_.out (by kernel_rfl)) (fun _ _ _ h => h) (Or.inr ⟨by rfl, rfl⟩) ?_ ?_
            rotate_left
            · simp only [Act.put, List.setIfInBounds_toArray, List.set_cons_zero, List.set_cons_succ, i64_w, i32_w]
              rfl
            refine pure_ (i := 37) (N := some 62) (v := undef) (a' := ?_) (Go.Proofs.YthphgkhmeobadabX.bA 53 274877906943) rfl rfl (any_of HT_.out (by kernel_rfl)) (fun _ _ _ h => h) (Or.inr ⟨by rfl, rfl⟩) ?_ ?_
            rotate_left
            · simp only [Act.put, List.setIfInBounds_toArray, List.set_cons_zero, List.set_cons_succ, i64_w, i32_w]
              rfl
            refine pure_ (i := 38) (N := some 63) (v := ?_) (a' := ?_) (Go.Proofs.YthphgkhmeobadabX.bA 53 549755813887) rfl rfl (any_of HT_.out (by kernel_rfl)) (fun _ _ _ h => h) (Or.inl ⟨by rfl, ?_⟩) ?_ ?_
            rotate_left
            · intro w'
              go_simp
              with_reducible rfl
            rotate_left
            · simp only [Act.put, List.setIfInBounds_toArray, List.set_cons_zero, List.set_cons_succ, i64_w, i32_w]
              rfl
            refine pure_ (i := 39) (N := some 64) (v := ?_) (a' := ?_) (Go.Proofs.YthphgkhmeobadabX.bA 53 1099511627775) rfl rfl (any_of HT_.out (by kernel_rfl)) (fun _ _ _ h => h) (Or.inl ⟨by rfl, ?_⟩) ?_ ?_
            rotate_left
            · intro w'
              go_simp
              with_reducible rfl
            rotate_left
            · simp only [Act.put, List.setIfInBounds_toArray, List.set_cons_zero, List.set_cons_succ, i64_w, i32_w]
              rfl
            refine pure_ (i := 40) (N := some 65) (v := undef) (a' := ?_) (Go.Proofs.YthphgkhmeobadabX.bA 53 2199023255551) rfl rfl (any_of HT_.out (by kernel_rfl)) (fun _ _ _ h => h) (Or.inr ⟨by rfl, rfl⟩) ?_ ?_
            rotate_left
            · simp only [Act.put, List.setIfInBounds_toArray, List.set_cons_zero, List.set_cons_succ, i64_w, i32_w]
              rfl
            refine pure_ (i := 41) (N := some 66) (v := undef) (a' := ?_) (Go.Proofs.YthphgkhmeobadabX.bA 53 4398046511103) rfl rfl (any_of HT_.out (by kernel_rfl)) (fun _ _ _ h => h) (Or.inr ⟨by rfl, rfl⟩) ?_ ?_
            rotate_left
            · simp only [Act.put, List.setIfInBounds_toArray, List.set_cons_zero, List.set_cons_succ, i64_w, i32_w]
              rfl
            refine pure_ (i := 42) (N := some 67) (v := undef) (a' := ?_) (Go.Proofs.YthphgkhmeobadabX.bA 53 8796093022207) rfl rfl (any_of HT_.out (by kernel_rfl)) (fun _ _ _ h => h) (Or.inr ⟨by rfl, rfl⟩) ?_ ?_
            rotate_left
            · simp only [Act.put, List.setIfInBounds_toArray, List.set_cons_zero, List.set_cons_succ, i64_w, i32_w]
              rfl
            refine pure_ (i := 43) (N := some 68) (v := undef) (a' := ?_) (Go.Proofs.YthphgkhmeobadabX.bA 53 17592186044415) rfl rfl (any_of HT_.out (by kernel_rfl)) (fun _ _ _ h => h) (Or.inr ⟨by rfl, rfl⟩) ?_ ?_
            rotate_left
            · simp only [Act.put, List.setIfInBounds_toArray, List.set_cons_zero, List.set_cons_succ, i64_w, i32_w]
              rfl
            refine pure_ (i := 44) (N := some 69) (v := undef) (a' := ?_) (Go.Proofs.YthphgkhmeobadabX.bA 53 35184372088831) rfl rfl (any_of HT_.out (by kernel_rfl)) (fun _ _ _ h => h) (Or.inr ⟨by rfl, rfl⟩) ?_ ?_
            rotate_left
            · simp only [Act.put, List.setIfInBounds_toArray, List.set_cons_zero, List.set_cons_succ, i64_w, i32_w]
              rfl
            refine pure_ (i := 45) (N := some 70) (v := undef) (a' := ?_) (Go.Proofs.YthphgkhmeobadabX.bA 53 70368744177663) rfl rfl (any_of HT_.out (by kernel_rfl)) (fun _ _ _ h => h) (Or.inr ⟨by rfl, rfl⟩) ?_ ?_
            rotate_left
            · simp only [Act.put, List.setIfInBounds_toArray, List.set_cons_zero, List.set_cons_succ, i64_w, i32_w]
              rfl
            refine pure_ (i := 46) (N := some 71) (v := undef) (a' := ?_) (Go.Proofs.YthphgkhmeobadabX.bA 53 140737488355327) rfl rfl (any_of HT_.out (by kernel_rfl)) (fun _ _ _ h => h) (Or.inr ⟨by rfl, rfl⟩) ?_ ?_
            rotate_left
            · simp only [Act.put, List.setIfInBounds_toArray, List.set_cons_zero, List.set_cons_succ, i64_w, i32_w]
              rfl
            refine pure_ (i := 47) (N := some 72) (v := ?_) (a' := ?_) (Go.Proofs.YthphgkhmeobadabX.bA 53 281474976710655) rfl rfl (any_of HT_.out (by kernel_rfl)) (fun _ _ _ h => h) (Or.inl ⟨by rfl, ?_⟩) ?_ ?_
            rotate_left
            · intro w'
              go_simp
              with_reducible rfl
            rotate_left
            · simp only [Act.put, List.setIfInBounds_toArray, List.set_cons_zero, List.set_cons_succ, i64_w, i32_w]
              rfl
            refine pure_ (i := 48) (N := some 73) (v := ?_) (a' := ?_) (Go.Proofs.YthphgkhmeobadabX.bA 53 562949953421311) rfl rfl (any_of HT_.out (by kernel_rfl)) (fun _ _ _ h => h) (Or.inl ⟨by rfl, ?_⟩) ?_ ?_
            rotate_left
            · intro w'
              go_simp
              with_reducible rfl
            rotate_left
            · simp only [Act.put, List.setIfInBounds_toArray, List.set_cons_zero, List.set_cons_succ, i64_w, i32_w]
              rfl
            refine pure_ (i := 49) (N := some 74) (v := undef) (a' := ?_) (Go.Proofs.YthphgkhmeobadabX.bA 53 1125899906842623) rfl rfl (any_of HT_.out (by kernel_rfl)) (fun _ _ _ h => h) (Or.inr ⟨by rfl, rfl⟩) ?_ ?_
            rotate_left
            · simp only [Act.put, List.setIfInBounds_toArray, List.set_cons_zero, List.set_cons_succ, i64_w, i32_w]
              rfl
            refine pure_ (i := 50) (N := some 75) (v := undef) (a' := ?_) (Go.Proofs.YthphgkhmeobadabX.bA 53 2251799813685247) rfl rfl (any_of HT_.out (by kernel_rfl)) (fun _ _ _ h => h) (Or.inr ⟨by rfl, rfl⟩) ?_ ?_
            rotate_left
            · simp only [Act.put, List.setIfInBounds_toArray, List.set_cons_zero, List.set_cons_succ, i64_w, i32_w]
              rfl
            refine pure_ (i := 51) (N := some 76) (v := undef) (a' := ?_) (Go.Proofs.YthphgkhmeobadabX.bA 53 4503599627370495) rfl rfl (any_of HT_.out (by kernel_rfl)) (fun _ _ _ h => h) (Or.inr ⟨by rfl, rfl⟩) ?_ ?_
            rotate_left
            · simp only [Act.put, List.setIfInBounds_toArray, List.set_cons_zero, List.set_cons_succ, i64_w, i32_w]
              rfl
            refine pure_ (i := 52) (N := some 77) (v := ?_) (a' := ?_) (Go.Proofs.YthphgkhmeobadabX.bA 53 9007199254740991) rfl rfl (any_of HT_.out (by kernel_rfl)) (fun _ _ _ h => h) (Or.inl ⟨by rfl, ?_⟩) ?_ ?_
            rotate_left
            · intro w'
              go_simp
              with_reducible rfl
            rotate_left
            · simp only [Act.put, List.setIfInBounds_toArray, List.set_cons_zero, List.set_cons_succ, i64_w, i32_w]
              rfl
            refine done_ (done_of HT_.out (by kernel_rfl)) ?_
            try go_wp2
            go_ret
            exact ⟨rfl, HB.out⟩
          · skip
            have HT1 := Aside0.mk ht1
            have HT2 := Aside0.mk ht2
            have HT3 := Aside0.mk ht3
            clear ht1 ht2 ht3
            have h4b : (((rd_T85 l0_1 x).f1) == ((rd_T85 l0_1 x).f2)) = true := beq_iff_eq.mpr h4
            clear h4
            have hr := HGO.out
            rw [if_neg (by decide)] at hr
            obtain rfl := Option.some.inj hr
            clear hr
            refine start_ (n := 53) (S := fun w' => w'.cell? ⟨gd, 0, none⟩ = some (.int .i64 a0_0) ∧ w'.cell? ⟨gd, 1, none⟩ = some (.slice (some ad) l0_1.length c0_1) ∧ w'.cell? ⟨gf, 0, none⟩ = some (.int .i64 ((rd_T85 l0_1 x).f0)) ∧ w'.cell? ⟨gf, 1, none⟩ = some (.int .i64 ((rd_T85 l0_1 x).f1)) ∧ w'.cell? ⟨gf, 2, none⟩ = some (.int .i64 ((rd_T85 l0_1 x).f2))) (ds := []) #[false, false, false, false, false, false, false, false, false, false, false, false, false, false, false, false, false, false, false, false, false, false, false, false, false, false, false, false, false, false, false, false, false, false, false, false, false, false, false, false, false, false, false, false, false, false, false, false, false, false, false, false, false] (by kernel_rfl) rfl rfl ⟨(blk_cell BKD.out 0).trans rfl, (blk_cell BKD.out 1).trans rfl, (blk_cell BKF.out 0).trans rfl, (blk_cell BKF.out 1).trans rfl, (blk_cell BKF.out 2).trans rfl⟩ (fun hHeld => ?_)
            refine with_tabW impl_DiagramValid.tab7 impl_DiagramValid.bits7 (fun HT_ HW_ => ?_)
            generalize wz.drew = wy at BKF BKD HM HB hHeld ⊢
            refine pure_ (i := 0) (N := some 25) (v := ?_) (a' := ?_) (Go.Proofs.YthphgkhmeobadabX.bA 53 1) rfl rfl (any_of HT_.out (by kernel_rfl)) (fun _ _ _ h => h) (Or.inl ⟨by rfl, ?_⟩) ?_ ?_
            rotate_left
            · intro w'
              go_simp
              with_reducible rfl
            rotate_left
            · simp only [Act.put, List.setIfInBounds_toArray, List.set_cons_zero, List.set_cons_succ, i64_w, i32_w]
              rfl
            refine pure_ (i := 2) (N := some 27) (v := ?_) (a' := ?_) (Go.Proofs.YthphgkhmeobadabX.bA 53 5) rfl rfl (any_of HT_.out (by kernel_rfl)) (fun _ _ _ h => h) (Or.inl ⟨by rfl, ?_⟩) ?_ ?_
            rotate_left
            · intro w'
              go_simp
              with_reducible rfl
            rotate_left
            · simp only [Act.put, List.setIfInBounds_toArray, List.set_cons_zero, List.set_cons_succ, i64_w, i32_w]
              rfl
            refine take_ (i := 1) (N := some 26) (v := ?_) (a' := ?_) (Go.Proofs.YthphgkhmeobadabX.bA 53 7) rfl rfl (take_ofW HT_.out HW_.out (by kernel_rfl)) (fun _ _ _ h => h) (Or.inl ⟨by rfl, ?_⟩) hHeld ?_ ?_
            rotate_left
            · rintro w' ⟨s0, s1, s2, s3, s4⟩
              go_simp
              with_reducible rfl
            rotate_left
            · simp only [Act.put, List.setIfInBounds_toArray, List.set_cons_zero, List.set_cons_succ, i64_w, i32_w]
              rfl
            refine take_ (i := 3) (N := some 28) (v := ?_) (a' := ?_) (Go.Proofs.YthphgkhmeobadabX.bA 53 15) rfl rfl (take_ofW HT_.out HW_.out (by kernel_rfl)) (fun _ _ _ h => h) (Or.inl ⟨by rfl, ?_⟩) hHeld ?_ ?_
            rotate_left
            · rintro w' ⟨s0, s1, s2, s3, s4⟩
              go_simp
              with_reducible rfl
            rotate_left
            · simp only [Act.put, List.setIfInBounds_toArray, List.set_cons_zero, List.set_cons_succ, i64_w, i32_w]
              rfl
            refine pure_ (i := 4) (N := some 29) (v := ?_) (a' := ?_) (Go.Proofs.YthphgkhmeobadabX.bA 53 31) rfl rfl (any_of HT_.out (by kernel_rfl)) (fun _ _ _ h => h) (Or.inl ⟨by rfl, ?_⟩) ?_ ?_
            rotate_left
            · intro w'
              go_simp
              with_reducible rfl
            rotate_left
            · simp only [Act.put, List.setIfInBounds_toArray, List.set_cons_zero, List.set_cons_succ, i64_w, i32_w]
              rfl
            refine one_ (i := 5) (N := some 30) (Go.Proofs.YthphgkhmeobadabX.bA 53 63) rfl rfl (one_of HT_.out (by kernel_rfl)) (by decide) (fun K hK => ?_)
            refine goes_ Try.func47 (by kernel_rfl) rfl #[.int .i64 ((rd_T85 l0_1 x).f0), .int .i64 0, .int .i64 (wrap64 (a0_0 - 1))] (by rfl) rfl rfl (by (try simp only [List.map_toArray, List.map_cons, List.map_nil]); first | done | rfl) ?_
            with_reducible refine (impl_in.calls ((rd_T85 l0_1 x).f0) 0 (wrap64 (a0_0 - 1)) true _ HT1.out).mono ?_
            rintro e wn ⟨rfl, hd⟩
            have hb := hd.below
            clear hd
            refine ⟨_, rfl, ?_⟩
            have n0_ := Aside0.mk ((hb.block _ (blk_lt BKF.out)).trans BKF.out)
            have n1_ := Aside0.mk ((hb.block _ (blk_lt BKD.out)).trans BKD.out)
            have n2_ := Aside0.mk (HM.out.below hb)
            have n3_ := Aside0.mk (below_step HB.out hb)
            clear BKF BKD HM HB
            have BKF := n0_
            have BKD := n1_
            have HM := n2_
            have HB := n3_
            clear n0_ n1_ n2_ n3_ hb
            refine hK.out _ _ ⟨(blk_cell BKD.out 0).trans rfl, (blk_cell BKD.out 1).trans rfl, (blk_cell BKF.out 0).trans rfl, (blk_cell BKF.out 1).trans rfl, (blk_cell BKF.out 2).trans rfl⟩ (fun hHeld => ?_)
            clear hK K
            refine norm_ (a' := ?_) ?_ ?_
            rotate_left
            · show Act.put _ (some 30) _ = _
              simp only [Act.put, List.setIfInBounds_toArray, List.set_cons_zero, List.set_cons_succ, i64_w, i32_w]
              rfl
            refine pure_ (i := 6) (N := some 31) (v := ?_) (a' := ?_) (Go.Proofs.YthphgkhmeobadabX.bA 53 127) rfl rfl (any_of HT_.out (by kernel_rfl)) (fun _ _ _ h => h) (Or.inl ⟨by rfl, ?_⟩) ?_ ?_
            rotate_left
            · intro w'
              go_simp
              with_reducible rfl
            rotate_left
            · simp only [Act.put, List.setIfInBounds_toArray, List.set_cons_zero, List.set_cons_succ, i64_w, i32_w]
              rfl
            refine pure_ (i := 7) (N := some 32) (v := ?_) (a' := ?_) (Go.Proofs.YthphgkhmeobadabX.bA 53 255) rfl rfl (any_of HT_.out (by kernel_rfl)) (fun _ _ _ h => h) (Or.inl ⟨by rfl, ?_⟩) ?_ ?_
            rotate_left
            · intro w'
              go_simp
              with_reducible rfl
            rotate_left
            · simp only [Act.put, List.setIfInBounds_toArray, List.set_cons_zero, List.set_cons_succ, i64_w, i32_w]
              rfl
            refine pure_ (i := 8) (N := some 33) (v := ?_) (a' := ?_) (Go.Proofs.YthphgkhmeobadabX.bA 53 511) rfl rfl (any_of HT_.out (by kernel_rfl)) (fun _ _ _ h => h) (Or.inl ⟨by rfl, ?_⟩) ?_ ?_
            rotate_left
            · intro w'
              go_simp
              with_reducible rfl
            rotate_left
            · simp only [Act.put, List.setIfInBounds_toArray, List.set_cons_zero, List.set_cons_succ, i64_w, i32_w]
              rfl
            refine pure_ (i := 10) (N := some 35) (v := ?_) (a' := ?_) (Go.Proofs.YthphgkhmeobadabX.bA 53 1535) rfl rfl (any_of HT_.out (by kernel_rfl)) (fun _ _ _ h => h) (Or.inl ⟨by rfl, ?_⟩) ?_ ?_
            rotate_left
            · intro w'
              go_simp
              with_reducible rfl
            rotate_left
            · simp only [Act.put, List.setIfInBounds_toArray, List.set_cons_zero, List.set_cons_succ, i64_w, i32_w]
              rfl
            refine pure_ (i := 11) (N := some 36) (v := ?_) (a' := ?_) (Go.Proofs.YthphgkhmeobadabX.bA 53 3583) rfl rfl (any_of HT_.out (by kernel_rfl)) (fun _ _ _ h => h) (Or.inl ⟨by rfl, ?_⟩) ?_ ?_
            rotate_left
            · intro w'
              go_simp
              with_reducible rfl
            rotate_left
            · simp only [Act.put, List.setIfInBounds_toArray, List.set_cons_zero, List.set_cons_succ, i64_w, i32_w]
              rfl
            refine take_ (i := 9) (N := some 34) (v := ?_) (a' := ?_) (Go.Proofs.YthphgkhmeobadabX.bA 53 4095) rfl rfl (take_ofW HT_.out HW_.out (by kernel_rfl)) (fun _ _ _ h => h) (Or.inl ⟨by rfl, ?_⟩) hHeld ?_ ?_
            rotate_left
            · rintro w' ⟨s0, s1, s2, s3, s4⟩
              go_simp
              with_reducible rfl
            rotate_left
            · simp only [Act.put, List.setIfInBounds_toArray, List.set_cons_zero, List.set_cons_succ, i64_w, i32_w]
              rfl
            refine one_ (i := 12) (N := some 37) (Go.Proofs.YthphgkhmeobadabX.bA 53 8191) rfl rfl (one_of HT_.out (by kernel_rfl)) (by decide) (fun K hK => ?_)
            refine goes_ Try.func47 (by kernel_rfl) rfl #[.int .i64 ((rd_T85 l0_1 x).f1), .int .i64 0, .int .i64 (wrap64 (x + 1))] (by rfl) rfl rfl (by (try simp only [List.map_toArray, List.map_cons, List.map_nil]); first | done | rfl) ?_
            with_reducible refine (impl_in.calls ((rd_T85 l0_1 x).f1) 0 (wrap64 (x + 1)) true _ HT2.out).mono ?_
            rintro e wn ⟨rfl, hd⟩
            have hb := hd.below
            clear hd
            refine ⟨_, rfl, ?_⟩
            have n0_ := Aside0.mk ((hb.block _ (blk_lt BKF.out)).trans BKF.out)
            have n1_ := Aside0.mk ((hb.block _ (blk_lt BKD.out)).trans BKD.out)
            have n2_ := Aside0.mk (HM.out.below hb)
            have n3_ := Aside0.mk (below_step HB.out hb)
            clear BKF BKD HM HB
            have BKF := n0_
            have BKD := n1_
            have HM := n2_
            have HB := n3_
            clear n0_ n1_ n2_ n3_ hb
            refine hK.out _ _ ⟨(blk_cell BKD.out 0).trans rfl, (blk_cell BKD.out 1).trans rfl, (blk_cell BKF.out 0).trans rfl, (blk_cell BKF.out 1).trans rfl, (blk_cell BKF.out 2).trans rfl⟩ (fun hHeld => ?_)
            clear hK K
            refine norm_ (a' := ?_) ?_ ?_
            rotate_left
            · show Act.put _ (some 37) _ = _
              simp only [Act.put, List.setIfInBounds_toArray, List.set_cons_zero, List.set_cons_succ, i64_w, i32_w]
              rfl
            refine pure_ (i := 13) (N := some 38) (v := ?_) (a' := ?_) (Go.Proofs.YthphgkhmeobadabX.bA 53 16383) rfl rfl (any_of HT_.out (by kernel_rfl)) (fun _ _ _ h => h) (Or.inl ⟨by rfl, ?_⟩) ?_ ?_
            rotate_left
            · intro w'
              go_simp
              with_reducible rfl
            rotate_left
            · simp only [Act.put, List.setIfInBounds_toArray, List.set_cons_zero, List.set_cons_succ, i64_w, i32_w]
              rfl
            refine pure_ (i := 14) (N := some 39) (v := ?_) (a' := ?_) (Go.Proofs.YthphgkhmeobadabX.bA 53 32767) rfl rfl (any_of HT_.out (by kernel_rfl)) (fun _ _ _ h => h) (Or.inl ⟨by rfl, ?_⟩) ?_ ?_
            rotate_left
            · intro w'
              go_simp
              with_reducible rfl
            rotate_left
            · simp only [Act.put, List.setIfInBounds_toArray, List.set_cons_zero, List.set_cons_succ, i64_w, i32_w]
              rfl
            refine pure_ (i := 15) (N := some 40) (v := ?_) (a' := ?_) (Go.Proofs.YthphgkhmeobadabX.bA 53 65535) rfl rfl (any_of HT_.out (by kernel_rfl)) (fun _ _ _ h => h) (Or.inl ⟨by rfl, ?_⟩) ?_ ?_
            rotate_left
            · intro w'
              go_simp
              with_reducible rfl
            rotate_left
            · simp only [Act.put, List.setIfInBounds_toArray, List.set_cons_zero, List.set_cons_succ, i64_w, i32_w]
              rfl
            refine pure_ (i := 16) (N := some 41) (v := ?_) (a' := ?_) (Go.Proofs.YthphgkhmeobadabX.bA 53 131071) rfl rfl (any_of HT_.out (by kernel_rfl)) (fun _ _ _ h => h) (Or.inl ⟨by rfl, ?_⟩) ?_ ?_
            rotate_left
            · intro w'
              go_simp
              with_reducible rfl
            rotate_left
            · simp only [Act.put, List.setIfInBounds_toArray, List.set_cons_zero, List.set_cons_succ, i64_w, i32_w]
              rfl
            refine pure_ (i := 18) (N := some 43) (v := ?_) (a' := ?_) (Go.Proofs.YthphgkhmeobadabX.bA 53 393215) rfl rfl (any_of HT_.out (by kernel_rfl)) (fun _ _ _ h => h) (Or.inl ⟨by rfl, ?_⟩) ?_ ?_
            rotate_left
            · intro w'
              go_simp
              with_reducible rfl
            rotate_left
            · simp only [Act.put, List.setIfInBounds_toArray, List.set_cons_zero, List.set_cons_succ, i64_w, i32_w]
              rfl
            refine pure_ (i := 19) (N := some 44) (v := ?_) (a' := ?_) (Go.Proofs.YthphgkhmeobadabX.bA 53 917503) rfl rfl (any_of HT_.out (by kernel_rfl)) (fun _ _ _ h => h) (Or.inl ⟨by rfl, ?_⟩) ?_ ?_
            rotate_left
            · intro w'
              go_simp
              with_reducible rfl
            rotate_left
            · simp only [Act.put, List.setIfInBounds_toArray, List.set_cons_zero, List.set_cons_succ, i64_w, i32_w]
              rfl
            refine take_ (i := 17) (N := some 42) (v := ?_) (a' := ?_) (Go.Proofs.YthphgkhmeobadabX.bA 53 1048575) rfl rfl (take_ofW HT_.out HW_.out (by kernel_rfl)) (fun _ _ _ h => h) (Or.inl ⟨by rfl, ?_⟩) hHeld ?_ ?_
            rotate_left
            · rintro w' ⟨s0, s1, s2, s3, s4⟩
              go_simp
              with_reducible rfl
            rotate_left
            · simp only [Act.put, List.setIfInBounds_toArray, List.set_cons_zero, List.set_cons_succ, i64_w, i32_w]
              rfl
            refine one_ (i := 20) (N := some 45) (Go.Proofs.YthphgkhmeobadabX.bA 53 2097151) rfl rfl (one_of HT_.out (by kernel_rfl)) (by decide) (fun K hK => ?_)
            refine goes_ Try.func47 (by kernel_rfl) rfl #[.int .i64 ((rd_T85 l0_1 x).f2), .int .i64 0, .int .i64 (wrap64 (x + 1))] (by rfl) rfl rfl (by (try simp only [List.map_toArray, List.map_cons, List.map_nil]); first | done | rfl) ?_
            with_reducible refine (impl_in.calls ((rd_T85 l0_1 x).f2) 0 (wrap64 (x + 1)) true _ HT3.out).mono ?_
            rintro e wn ⟨rfl, hd⟩
            have hb := hd.below
            clear hd
            refine ⟨_, rfl, ?_⟩
            have n0_ := Aside0.mk ((hb.block _ (blk_lt BKF.out)).trans BKF.out)
            have n1_ := Aside0.mk ((hb.block _ (blk_lt BKD.out)).trans BKD.out)
            have n2_ := Aside0.mk (HM.out.below hb)
            have n3_ := Aside0.mk (below_step HB.out hb)
            clear BKF BKD HM HB
            have BKF := n0_
            have BKD := n1_
            have HM := n2_
            have HB := n3_
            clear n0_ n1_ n2_ n3_ hb
            refine hK.out _ _ ⟨(blk_cell BKD.out 0).trans rfl, (blk_cell BKD.out 1).trans rfl, (blk_cell BKF.out 0).trans rfl, (blk_cell BKF.out 1).trans rfl, (blk_cell BKF.out 2).trans rfl⟩ (fun hHeld => ?_)
            clear hK K
            refine norm_ (a' := ?_) ?_ ?_
            rotate_left
            · show Act.put _ (some 45) _ = _
              simp only [Act.put, List.setIfInBounds_toArray, List.set_cons_zero, List.set_cons_succ, i64_w, i32_w]
              rfl
            refine pure_ (i := 21) (N := some 46) (v := ?_) (a' := ?_) (Go.Proofs.YthphgkhmeobadabX.bA 53 4194303) rfl rfl (any_of HT_.out (by kernel_rfl)) (fun _ _ _ h => h) (Or.inl ⟨by rfl, ?_⟩) ?_ ?_
            rotate_left
            · intro w'
              go_simp
              with_reducible rfl
            rotate_left
            · simp only [Act.put, List.setIfInBounds_toArray, List.set_cons_zero, List.set_cons_succ, i64_w, i32_w]
              rfl
            refine pure_ (i := 22) (N := some 47) (v := ?_) (a' := ?_) (Go.Proofs.YthphgkhmeobadabX.bA 53 8388607) rfl rfl (any_of HT_.out (by kernel_rfl)) (fun _ _ _ h => h) (Or.inl ⟨by rfl, ?_⟩) ?_ ?_
            rotate_left
            · intro w'
              go_simp
              with_reducible rfl
            rotate_left
            · simp only [Act.put, List.setIfInBounds_toArray, List.set_cons_zero, List.set_cons_succ, i64_w, i32_w]
              rfl
            refine pure_ (i := 23) (N := some 48) (v := ?_) (a' := ?_) (Go.Proofs.YthphgkhmeobadabX.bA 53 16777215) rfl rfl (any_of HT_.out (by kernel_rfl)) (fun _ _ _ h => h) (Or.inl ⟨by rfl, ?_⟩) ?_ ?_
            rotate_left
            · intro w'
              go_simp
              with_reducible rfl
            rotate_left
            · simp only [Act.put, List.setIfInBounds_toArray, List.set_cons_zero, List.set_cons_succ, i64_w, i32_w]
              rfl
            refine pure_ (i := 24) (N := some 49) (v := ?_) (a' := ?_) (Go.Proofs.YthphgkhmeobadabX.bA 53 33554431) rfl rfl (any_of HT_.out (by kernel_rfl)) (fun _ _ _ h => h) (Or.inl ⟨by rfl, ?_⟩) ?_ ?_
            rotate_left
            · intro w'
              go_simp
              with_reducible rfl
            rotate_left
            · simp only [Act.put, List.setIfInBounds_toArray, List.set_cons_zero, List.set_cons_succ, i64_w, i32_w]
              rfl
            refine pure_ (i := 26) (N := some 51) (v := ?_) (a' := ?_) (Go.Proofs.YthphgkhmeobadabX.bA 53 100663295) rfl rfl (any_of HT_.out (by kernel_rfl)) (fun _ _ _ h => h) (Or.inl ⟨by rfl, ?_⟩) ?_ ?_
            rotate_left
            · intro w'
              go_simp
              with_reducible rfl
            rotate_left
            · simp only [Act.put, List.setIfInBounds_toArray, List.set_cons_zero, List.set_cons_succ, i64_w, i32_w]
              rfl
            refine take_ (i := 25) (N := some 50) (v := ?_) (a' := ?_) (Go.Proofs.YthphgkhmeobadabX.bA 53 134217727) rfl rfl (take_ofW HT_.out HW_.out (by kernel_rfl)) (fun _ _ _ h => h) (Or.inl ⟨by rfl, ?_⟩) hHeld ?_ ?_
            rotate_left
            · rintro w' ⟨s0, s1, s2, s3, s4⟩
              go_simp
              with_reducible rfl
            rotate_left
            · simp only [Act.put, List.setIfInBounds_toArray, List.set_cons_zero, List.set_cons_succ, i64_w, i32_w]
              rfl
            refine take_ (i := 27) (N := some 52) (v := ?_) (a' := ?_) (Go.Proofs.YthphgkhmeobadabX.bA 53 268435455) rfl rfl (take_ofW HT_.out HW_.out (by kernel_rfl)) (fun _ _ _ h => h) (Or.inl ⟨by rfl, ?_⟩) hHeld ?_ ?_
            rotate_left
            · rintro w' ⟨s0, s1, s2, s3, s4⟩
              go_simp
              with_reducible rfl
            rotate_left
            · simp only [Act.put, List.setIfInBounds_toArray, List.set_cons_zero, List.set_cons_succ, i64_w, i32_w]
              rfl
            refine pure_ (i := 28) (N := some 53) (v := ?_) (a' := ?_) (Go.Proofs.YthphgkhmeobadabX.bA 53 536870911) rfl rfl (any_of HT_.out (by kernel_rfl)) (fun _ _ _ h => h) (Or.inl ⟨by rfl, ?_⟩) ?_ ?_
            rotate_left
            · intro w'
              go_simp
              with_reducible rfl
            rotate_left
            · simp only [Act.put, List.setIfInBounds_toArray, List.set_cons_zero, List.set_cons_succ, i64_w, i32_w]
              rfl
            refine pure_ (i := 29) (N := some 54) (v := ?_) (a' := ?_) (Go.Proofs.YthphgkhmeobadabX.bA 53 1073741823) rfl rfl (any_of HT_.out (by kernel_rfl)) (fun _ _ _ h => h) (Or.inl ⟨by rfl, ?_⟩) ?_ ?_
            rotate_left
            · intro w'
              go_simp
              with_reducible rfl
            rotate_left
            · simp only [Act.put, List.setIfInBounds_toArray, List.set_cons_zero, List.set_cons_succ, i64_w, i32_w]
              rfl
            refine pure_ (i := 30) (N := some 55) (v := ?_) (a' := ?_) (Go.Proofs.YthphgkhmeobadabX.bA 53 2147483647) rfl rfl (any_of HT_.out (by kernel_rfl)) (fun _ _ _ h => h) (Or.inl ⟨by rfl, ?_⟩) ?_ ?_
            rotate_left
            · intro w'
              go_simp
              with_reducible rfl
            rotate_left
            · simp only [Act.put, List.setIfInBounds_toArray, List.set_cons_zero, List.set_cons_succ, i64_w, i32_w]
              rfl
            refine pure_ (i := 31) (N := some 56) (v := undef) (a' := ?_) (Go.Proofs.YthphgkhmeobadabX.bA 53 4294967295) rfl rfl (any_of HT_.out (by kernel_rfl)) (fun _ _ _ h => h) (Or.inr ⟨by rfl, rfl⟩) ?_ ?_
            rotate_left
            · simp only [Act.put, List.setIfInBounds_toArray, List.set_cons_zero, List.set_cons_succ, i64_w, i32_w]
              rfl
            refine pure_ (i := 32) (N := some 57) (v := undef) (a' := ?_) (Go.Proofs.YthphgkhmeobadabX.bA 53 8589934591) rfl rfl (any_of HT_.out (by kernel_rfl)) (fun _ _ _ h => h) (Or.inr ⟨by rfl, rfl⟩) ?_ ?_
            rotate_left
            · simp only [Act.put, List.setIfInBounds_toArray, List.set_cons_zero, List.set_cons_succ, i64_w, i32_w]
              rfl
            refine pure_ (i := 33) (N := some 58) (v := undef) (a' := ?_) (Go.Proofs.YthphgkhmeobadabX.bA 53 17179869183) rfl rfl (any_of HT_.out (by kernel_rfl)) (fun _ _ _ h => h) (Or.inr ⟨by rfl, rfl⟩) ?_ ?_
            rotate_left
            · simp only [Act.put, List.setIfInBounds_toArray, List.set_cons_zero, List.set_cons_succ, i64_w, i32_w]
              rfl
            refine pure_ (i := 34) (N := some 59) (v := undef) (a' := ?_) (Go.Proofs.YthphgkhmeobadabX.bA 53 34359738367) rfl rfl (any_of HT_.out (by kernel_rfl)) (fun _ _ _ h => h) (Or.inr ⟨by rfl, rfl⟩) ?_ ?_
            rotate_left
            · simp only [Act.put, List.setIfInBounds_toArray, List.set_cons_zero, List.set_cons_succ, i64_w, i32_w]
              rfl
            refine pure_ (i := 35) (N := some 60) (v := undef) (a' := ?_) (Go.Proofs.YthphgkhmeobadabX.bA 53 68719476735) rfl rfl (any_of HT_.out (by kernel_rfl)) (fun _ _ _ h => h) (Or.inr ⟨by rfl, rfl⟩) ?_ ?_
            rotate_left
            · simp only [Act.put, List.setIfInBounds_toArray, List.set_cons_zero, List.set_cons_succ, i64_w, i32_w]
              rfl
            refine pure_ (i := 36) (N := some 61) (v := undef) (a' := ?_) (Go.Proofs.YthphgkhmeobadabX.bA 53 137438953471) rfl rfl (any_of HT_.out (by kernel_rfl)) (fun _ _ _ h => h) (Or.inr ⟨by rfl, rfl⟩) ?_ ?_
            rotate_left
            · simp only [Act.put, List.setIfInBounds_toArray, List.set_cons_zero, List.set_cons_succ, i64_w, i32_w]
              rfl
            refine pure_ (i := 37) (N := some 62) (v := undef) (a' := ?_) (Go.Proofs.YthphgkhmeobadabX.bA 53 274877906943) rfl rfl (any_of HT_.out (by kernel_rfl)) (fun _ _ _ h => h) (Or.inr ⟨by rfl, rfl⟩) ?_ ?_
            rotate_left
            · simp only [Act.put, List.setIfInBounds_toArray, List.set_cons_zero, List.set_cons_succ, i64_w, i32_w]
              rfl
            refine pure_ (i := 38) (N := some 63) (v := ?_) (a' := ?_) (Go.Proofs.YthphgkhmeobadabX.bA 53 549755813887) rfl rfl (any_of HT_.out (by kernel_rfl)) (fun _ _ _ h => h) (Or.inl ⟨by rfl, ?_⟩) ?_ ?_
            rotate_left
            · intro w'
              go_simp
              with_reducible rfl
            rotate_left
            · simp only [Act.put, List.setIfInBounds_toArray, List.set_cons_zero, List.set_cons_succ, i64_w, i32_w]
              rfl
            refine pure_ (i := 39) (N := some 64) (v := ?_) (a' := ?_) (Go.Proofs.YthphgkhmeobadabX.bA 53 1099511627775) rfl rfl (any_of HT_.out (by kernel_rfl)) (fun _ _ _ h => h) (Or.inl ⟨by rfl, ?_⟩) ?_ ?_
            rotate_left
            · intro w'
              go_simp
              with_reducible rfl
            rotate_left
            · simp only [Act.put, List.setIfInBounds_toArray, List.set_cons_zero, List.set_cons_succ, i64_w, i32_w]
              rfl
            refine pure_ (i := 40) (N := some 65) (v := undef) (a' := ?_) (Go.Proofs.YthphgkhmeobadabX.bA 53 2199023255551) rfl rfl (any_of HT_.out (by kernel_rfl)) (fun _ _ _ h => h) (Or.inr ⟨by rfl, rfl⟩) ?_ ?_
            rotate_left
            · simp only [Act.put, List.setIfInBounds_toArray, List.set_cons_zero, List.set_cons_succ, i64_w, i32_w]
              rfl
            refine pure_ (i := 41) (N := some 66) (v := undef) (a' := ?_) (Go.Proofs.YthphgkhmeobadabX.bA 53 4398046511103) rfl rfl (any_of HT_.out (by kernel_rfl)) (fun _ _ _ h => h) (Or.inr ⟨by rfl, rfl⟩) ?_ ?_
            rotate_left
            · simp only [Act.put, List.setIfInBounds_toArray, List.set_cons_zero, List.set_cons_succ, i64_w, i32_w]
              rfl
            refine pure_ (i := 42) (N := some 67) (v := undef) (a' := ?_) (Go.Proofs.YthphgkhmeobadabX.bA 53 8796093022207) rfl rfl (any_of HT_.out (by kernel_rfl)) (fun _ _ _ h => h) (Or.inr ⟨by rfl, rfl⟩) ?_ ?_
            rotate_left
            · simp only [Act.put, List.setIfInBounds_toArray, List.set_cons_zero, List.set_cons_succ, i64_w, i32_w]
              rfl
            refine pure_ (i := 43) (N := some 68) (v := undef) (a' := ?_) (Go.Proofs.YthphgkhmeobadabX.bA 53 17592186044415) rfl rfl (any_of HT_.out (by kernel_rfl)) (fun _ _ _ h => h) (Or.inr ⟨by rfl, rfl⟩) ?_ ?_
            rotate_left
            · simp only [Act.put, List.setIfInBounds_toArray, List.set_cons_zero, List.set_cons_succ, i64_w, i32_w]
              rfl
            refine pure_ (i := 44) (N := some 69) (v := undef) (a' := ?_) (Go.Proofs.YthphgkhmeobadabX.bA 53 35184372088831) rfl rfl (any_of HT_.out (by kernel_rfl)) (fun _ _ _ h => h) (Or.inr ⟨by rfl, rfl⟩) ?_ ?_
            rotate_left
            · simp only [Act.put, List.setIfInBounds_toArray, List.set_cons_zero, List.set_cons_succ, i64_w, i32_w]
              rfl
            refine pure_ (i := 45) (N := some 70) (v := undef) (a' := ?_) (Go.Proofs.YthphgkhmeobadabX.bA 53 70368744177663) rfl rfl (any_of HT_.out (by kernel_rfl)) (fun _ _ _ h => h) (Or.inr ⟨by rfl, rfl⟩) ?_ ?_
            rotate_left
            · simp only [Act.put, List.setIfInBounds_toArray, List.set_cons_zero, List.set_cons_succ, i64_w, i32_w]
              rfl
            refine pure_ (i := 46) (N := some 71) (v := undef) (a' := ?_) (Go.Proofs.YthphgkhmeobadabX.bA 53 140737488355327) rfl rfl (any_of HT_.out (by kernel_rfl)) (fun _ _ _ h => h) (Or.inr ⟨by rfl, rfl⟩) ?_ ?_
            rotate_left
            · simp only [Act.put, List.setIfInBounds_toArray, List.set_cons_zero, List.set_cons_succ, i64_w, i32_w]
              rfl
            refine pure_ (i := 47) (N := some 72) (v := ?_) (a' := ?_) (Go.Proofs.YthphgkhmeobadabX.bA 53 281474976710655) rfl rfl (any_of HT_.out (by kernel_rfl)) (fun _ _ _ h => h) (Or.inl ⟨by rfl, ?_⟩) ?_ ?_
            rotate_left
            · intro w'
              go_simp
              with_reducible rfl
            rotate_left
            · simp only [Act.put, List.setIfInBounds_toArray, List.set_cons_zero, List.set_cons_succ, i64_w, i32_w]
              rfl
            refine pure_ (i := 48) (N := some 73) (v := ?_) (a' := ?_) (Go.Proofs.YthphgkhmeobadabX.bA 53 562949953421311) rfl rfl (any_of HT_.out (by kernel_rfl)) (fun _ _ _ h => h) (Or.inl ⟨by rfl, ?_⟩) ?_ ?_
            rotate_left
            · intro w'
              go_simp
              with_reducible rfl
            rotate_left
            · simp only [Act.put, List.setIfInBounds_toArray, List.set_cons_zero, List.set_cons_succ, i64_w, i32_w]
              rfl
            refine pure_ (i := 49) (N := some 74) (v := undef) (a' := ?_) (Go.Proofs.YthphgkhmeobadabX.bA 53 1125899906842623) rfl rfl (any_of HT_.out (by kernel_rfl)) (fun _ _ _ h => h) (Or.inr ⟨by rfl, rfl⟩) ?_ ?_
            rotate_left
            · simp only [Act.put, List.setIfInBounds_toArray, List.set_cons_zero, List.set_cons_succ, i64_w, i32_w]
              rfl
            refine pure_ (i := 50) (N := some 75) (v := undef) (a' := ?_) (Go.Proofs.YthphgkhmeobadabX.bA 53 2251799813685247) rfl rfl (any_of HT_.out (by kernel_rfl)) (fun _ _ _ h => h) (Or.inr ⟨by rfl, rfl⟩) ?_ ?_
            rotate_left
            · simp only [Act.put, List.setIfInBounds_toArray, List.set_cons_zero, List.set_cons_succ, i64_w, i32_w]
              rfl
            refine pure_ (i := 51) (N := some 76) (v := undef) (a' := ?_) (Go.Proofs.YthphgkhmeobadabX.bA 53 4503599627370495) rfl rfl (any_of HT_.out (by kernel_rfl)) (fun _ _ _ h => h) (Or.inr ⟨by rfl, rfl⟩) ?_ ?_
            rotate_left
            · simp only [Act.put, List.setIfInBounds_toArray, List.set_cons_zero, List.set_cons_succ, i64_w, i32_w]
              rfl
            refine pure_ (i := 52) (N := some 77) (v := ?_) (a' := ?_) (Go.Proofs.YthphgkhmeobadabX.bA 53 9007199254740991) rfl rfl (any_of HT_.out (by kernel_rfl)) (fun _ _ _ h => h) (Or.inl ⟨by rfl, ?_⟩) ?_ ?_
            rotate_left
            · intro w'
              go_simp
              with_reducible rfl
            rotate_left
            · simp only [Act.put, List.setIfInBounds_toArray, List.set_cons_zero, List.set_cons_succ, i64_w, i32_w]
              rfl
            refine done_ (done_of HT_.out (by kernel_rfl)) ?_
            try go_wp2
            go_ret
            exact ⟨rfl, HB.out⟩
          · skip
            have HT1 := Aside0.mk ht1
            have HT2 := Aside0.mk ht2
            have HT3 := Aside0.mk ht3
            have HV1 := Aside0.mk hv1
            clear ht1 ht2 ht3 hv1
            have h4b : (((rd_T85 l0_1 x).f1) == ((rd_T85 l0_1 x).f2)) = false := beq_eq_false_iff_ne.mpr h4
            clear h4
            have h5b : decide (v1 ≤ ((rd_T85 l0_1 x).f0)) = true := decide_eq_true h5
            clear h5
            have hr := HGO.out
            rw [if_neg (by decide)] at hr
            obtain rfl := Option.some.inj hr
            clear hr
            refine start_ (n := 53) (S := fun w' => w'.cell? ⟨gd, 0, none⟩ = some (.int .i64 a0_0) ∧ w'.cell? ⟨gd, 1, none⟩ = some (.slice (some ad) l0_1.length c0_1) ∧ w'.cell? ⟨gf, 0, none⟩ = some (.int .i64 ((rd_T85 l0_1 x).f0)) ∧ w'.cell? ⟨gf, 1, none⟩ = some (.int .i64 ((rd_T85 l0_1 x).f1)) ∧ w'.cell? ⟨gf, 2, none⟩ = some (.int .i64 ((rd_T85 l0_1 x).f2))) (ds := []) #[false, false, false, false, false, false, false, false, false, false, false, false, false, false, false, false, false, false, false, false, false, false, false, false, false, false, false, false, false, false, false, false, false, false, false, false, false, false, false, false, false, false, false, false, false, false, false, false, false, false, false, false, false] (by kernel_rfl) rfl rfl ⟨(blk_cell BKD.out 0).trans rfl, (blk_cell BKD.out 1).trans rfl, (blk_cell BKF.out 0).trans rfl, (blk_cell BKF.out 1).trans rfl, (blk_cell BKF.out 2).trans rfl⟩ (fun hHeld => ?_)
            refine with_tabW impl_DiagramValid.tab7 impl_DiagramValid.bits7 (fun HT_ HW_ => ?_)
            generalize wz.drew = wy at BKF BKD HM HB hHeld ⊢
            refine pure_ (i := 0) (N := some 25) (v := ?_) (a' := ?_) (Go.Proofs.YthphgkhmeobadabX.bA 53 1) rfl rfl (any_of HT_.out (by kernel_rfl)) (fun _ _ _ h => h) (Or.inl ⟨by rfl, ?_⟩) ?_ ?_
            rotate_left
            · intro w'
              go_simp
              with_reducible rfl
            rotate_left
            · simp only [Act.put, List.setIfInBounds_toArray, List.set_cons_zero, List.set_cons_succ, i64_w, i32_w]
              rfl
            refine pure_ (i := 2) (N := some 27) (v := ?_) (a' := ?_) (Go.Proofs.YthphgkhmeobadabX.bA 53 5) rfl rfl (any_of HT_.out (by kernel_rfl)) (fun _ _ _ h => h) (Or.inl ⟨by rfl, ?_⟩) ?_ ?_
            rotate_left
            · intro w'
              go_simp
              with_reducible rfl
            rotate_left
            · simp only [Act.put, List.setIfInBounds_toArray, List.set_cons_zero, List.set_cons_succ, i64_w, i32_w]
              rfl
            refine take_ (i := 1) (N := some 26) (v := ?_) (a' := ?_) (Go.Proofs.YthphgkhmeobadabX.bA 53 7) rfl rfl (take_ofW HT_.out HW_.out (by kernel_rfl)) (fun _ _ _ h => h) (Or.inl ⟨by rfl, ?_⟩) hHeld ?_ ?_
            rotate_left
            · rintro w' ⟨s0, s1, s2, s3, s4⟩
              go_simp
              with_reducible rfl
            rotate_left
            · simp only [Act.put, List.setIfInBounds_toArray, List.set_cons_zero, List.set_cons_succ, i64_w, i32_w]
              rfl
            refine take_ (i := 3) (N := some 28) (v := ?_) (a' := ?_) (Go.Proofs.YthphgkhmeobadabX.bA 53 15) rfl rfl (take_ofW HT_.out HW_.out (by kernel_rfl)) (fun _ _ _ h => h) (Or.inl ⟨by rfl, ?_⟩) hHeld ?_ ?_
            rotate_left
            · rintro w' ⟨s0, s1, s2, s3, s4⟩
              go_simp
              with_reducible rfl
            rotate_left
            · simp only [Act.put, List.setIfInBounds_toArray, List.set_cons_zero, List.set_cons_succ, i64_w, i32_w]
              rfl
            refine pure_ (i := 4) (N := some 29) (v := ?_) (a' := ?_) (Go.Proofs.YthphgkhmeobadabX.bA 53 31) rfl rfl (any_of HT_.out (by kernel_rfl)) (fun _ _ _ h => h) (Or.inl ⟨by rfl, ?_⟩) ?_ ?_
            rotate_left
            · intro w'
              go_simp
              with_reducible rfl
            rotate_left
            · simp only [Act.put, List.setIfInBounds_toArray, List.set_cons_zero, List.set_cons_succ, i64_w, i32_w]
              rfl
            refine one_ (i := 5) (N := some 30) (Go.Proofs.YthphgkhmeobadabX.bA 53 63) rfl rfl (one_of HT_.out (by kernel_rfl)) (by decide) (fun K hK => ?_)
            refine goes_ Try.func47 (by kernel_rfl) rfl #[.int .i64 ((rd_T85 l0_1 x).f0), .int .i64 0, .int .i64 (wrap64 (a0_0 - 1))] (by rfl) rfl rfl (by (try simp only [List.map_toArray, List.map_cons, List.map_nil]); first | done | rfl) ?_
            with_reducible refine (impl_in.calls ((rd_T85 l0_1 x).f0) 0 (wrap64 (a0_0 - 1)) true _ HT1.out).mono ?_
            rintro e wn ⟨rfl, hd⟩
            have hb := hd.below
            clear hd
            refine ⟨_, rfl, ?_⟩
            have n0_ := Aside0.mk ((hb.block _ (blk_lt BKF.out)).trans BKF.out)
            have n1_ := Aside0.mk ((hb.block _ (blk_lt BKD.out)).trans BKD.out)
            have n2_ := Aside0.mk (HM.out.below hb)
            have n3_ := Aside0.mk (below_step HB.out hb)
            clear BKF BKD HM HB
            have BKF := n0_
            have BKD := n1_
            have HM := n2_
            have HB := n3_
            clear n0_ n1_ n2_ n3_ hb
            refine hK.out _ _ ⟨(blk_cell BKD.out 0).trans rfl, (blk_cell BKD.out 1).trans rfl, (blk_cell BKF.out 0).trans rfl, (blk_cell BKF.out 1).trans rfl, (blk_cell BKF.out 2).trans rfl⟩ (fun hHeld => ?_)
            clear hK K
            refine norm_ (a' := ?_) ?_ ?_
            rotate_left
            · show Act.put _ (some 30) _ = _
              simp only [Act.put, List.setIfInBounds_toArray, List.set_cons_zero, List.set_cons_succ, i64_w, i32_w]
              rfl
            refine pure_ (i := 6) (N := some 31) (v := ?_) (a' := ?_) (Go.Proofs.YthphgkhmeobadabX.bA 53 127) rfl rfl (any_of HT_.out (by kernel_rfl)) (fun _ _ _ h => h) (Or.inl ⟨by rfl, ?_⟩) ?_ ?_
            rotate_left
            · intro w'
              go_simp
              with_reducible rfl
            rotate_left
            · simp only [Act.put, List.setIfInBounds_toArray, List.set_cons_zero, List.set_cons_succ, i64_w, i32_w]
              rfl
            refine pure_ (i := 7) (N := some 32) (v := ?_) (a' := ?_) (Go.Proofs.YthphgkhmeobadabX.bA 53 255) rfl rfl (any_of HT_.out (by kernel_rfl)) (fun _ _ _ h => h) (Or.inl ⟨by rfl, ?_⟩) ?_ ?_
            rotate_left
            · intro w'
              go_simp
              with_reducible rfl
            rotate_left
            · simp only [Act.put, List.setIfInBounds_toArray, List.set_cons_zero, List.set_cons_succ, i64_w, i32_w]
              rfl
            refine pure_ (i := 8) (N := some 33) (v := ?_) (a' := ?_) (Go.Proofs.YthphgkhmeobadabX.bA 53 511) rfl rfl (any_of HT_.out (by kernel_rfl)) (fun _ _ _ h => h) (Or.inl ⟨by rfl, ?_⟩) ?_ ?_
            rotate_left
            · intro w'
              go_simp
              with_reducible rfl
            rotate_left
            · simp only [Act.put, List.setIfInBounds_toArray, List.set_cons_zero, List.set_cons_succ, i64_w, i32_w]
              rfl
            refine pure_ (i := 10) (N := some 35) (v := ?_) (a' := ?_) (Go.Proofs.YthphgkhmeobadabX.bA 53 1535) rfl rfl (any_of HT_.out (by kernel_rfl)) (fun _ _ _ h => h) (Or.inl ⟨by rfl, ?_⟩) ?_ ?_
            rotate_left
            · intro w'
              go_simp
              with_reducible rfl
            rotate_left
            · simp only [Act.put, List.setIfInBounds_toArray, List.set_cons_zero, List.set_cons_succ, i64_w, i32_w]
              rfl
            refine pure_ (i := 11) (N := some 36) (v := ?_) (a' := ?_) (Go.Proofs.YthphgkhmeobadabX.bA 53 3583) rfl rfl (any_of HT_.out (by kernel_rfl)) (fun _ _ _ h => h) (Or.inl ⟨by rfl, ?_⟩) ?_ ?_
            rotate_left
            · intro w'
              go_simp
              with_reducible rfl
            rotate_left
            · simp only [Act.put, List.setIfInBounds_toArray, List.set_cons_zero, List.set_cons_succ, i64_w, i32_w]
              rfl
            refine take_ (i := 9) (N := some 34) (v := ?_) (a' := ?_) (Go.Proofs.YthphgkhmeobadabX.bA 53 4095) rfl rfl (take_ofW HT_.out HW_.out (by kernel_rfl)) (fun _ _ _ h => h) (Or.inl ⟨by rfl, ?_⟩) hHeld ?_ ?_
            rotate_left
            · rintro w' ⟨s0, s1, s2, s3, s4⟩
              go_simp
              with_reducible rfl
            rotate_left
            · simp only [Act.put, List.setIfInBounds_toArray, List.set_cons_zero, List.set_cons_succ, i64_w, i32_w]
              rfl
            refine one_ (i := 12) (N := some 37) (Go.Proofs.YthphgkhmeobadabX.bA 53 8191) rfl rfl (one_of HT_.out (by kernel_rfl)) (by decide) (fun K hK => ?_)
            refine goes_ Try.func47 (by kernel_rfl) rfl #[.int .i64 ((rd_T85 l0_1 x).f1), .int .i64 0, .int .i64 (wrap64 (x + 1))] (by rfl) rfl rfl (by (try simp only [List.map_toArray, List.map_cons, List.map_nil]); first | done | rfl) ?_
            with_reducible refine (impl_in.calls ((rd_T85 l0_1 x).f1) 0 (wrap64 (x + 1)) true _ HT2.out).mono ?_
            rintro e wn ⟨rfl, hd⟩
            have hb := hd.below
            clear hd
            refine ⟨_, rfl, ?_⟩
            have n0_ := Aside0.mk ((hb.block _ (blk_lt BKF.out)).trans BKF.out)
            have n1_ := Aside0.mk ((hb.block _ (blk_lt BKD.out)).trans BKD.out)
            have n2_ := Aside0.mk (HM.out.below hb)
            have n3_ := Aside0.mk (below_step HB.out hb)
            clear BKF BKD HM HB
            have BKF := n0_
            have BKD := n1_
            have HM := n2_
            have HB := n3_
            clear n0_ n1_ n2_ n3_ hb
            refine hK.out _ _ ⟨(blk_cell BKD.out 0).trans rfl, (blk_cell BKD.out 1).trans rfl, (blk_cell BKF.out 0).trans rfl, (blk_cell BKF.out 1).trans rfl, (blk_cell BKF.out 2).trans rfl⟩ (fun hHeld => ?_)
            clear hK K
            refine norm_ (a' := ?_) ?_ ?_
            rotate_left
            · show Act.put _ (some 37) _ = _
              simp only [Act.put, List.setIfInBounds_toArray, List.set_cons_zero, List.set_cons_succ, i64_w, i32_w]
              rfl
            refine pure_ (i := 13) (N := some 38) (v := ?_) (a' := ?_) (Go.Proofs.YthphgkhmeobadabX.bA 53 16383) rfl rfl (any_of HT_.out (by kernel_rfl)) (fun _ _ _ h => h) (Or.inl ⟨by rfl, ?_⟩) ?_ ?_
            rotate_left
            · intro w'
              go_simp
              with_reducible rfl
            rotate_left
            · simp only [Act.put, List.setIfInBounds_toArray, List.set_cons_zero, List.set_cons_succ, i64_w, i32_w]
              rfl
            refine pure_ (i := 14) (N := some 39) (v := ?_) (a' := ?_) (Go.Proofs.YthphgkhmeobadabX.bA 53 32767) rfl rfl (any_of HT_.out (by kernel_rfl)) (fun _ _ _ h => h) (Or.inl ⟨by rfl, ?_⟩) ?_ ?_
            rotate_left
            · intro w'
              go_simp
              with_reducible rfl
            rotate_left
            · simp only [Act.put, List.setIfInBounds_toArray, List.set_cons_zero, List.set_cons_succ, i64_w, i32_w]
              rfl
            refine pure_ (i := 15) (N := some 40) (v := ?_) (a' := ?_) (Go.Proofs.YthphgkhmeobadabX.bA 53 65535) rfl rfl (any_of HT_.out (by kernel_rfl)) (fun _ _ _ h => h) (Or.inl ⟨by rfl, ?_⟩) ?_ ?_
            rotate_left
            · intro w'
              go_simp
              with_reducible rfl
            rotate_left
            · simp only [Act.put, List.setIfInBounds_toArray, List.set_cons_zero, List.set_cons_succ, i64_w, i32_w]
              rfl
            refine pure_ (i := 16) (N := some 41) (v := ?_) (a' := ?_) (Go.Proofs.YthphgkhmeobadabX.bA 53 131071) rfl rfl (any_of HT_.out (by kernel_rfl)) (fun _ _ _ h => h) (Or.inl ⟨by rfl, ?_⟩) ?_ ?_
            rotate_left
            · intro w'
              go_simp
              with_reducible rfl
            rotate_left
            · simp only [Act.put, List.setIfInBounds_toArray, List.set_cons_zero, List.set_cons_succ, i64_w, i32_w]
              rfl
            refine pure_ (i := 18) (N := some 43) (v := ?_) (a' := ?_) (Go.Proofs.YthphgkhmeobadabX.bA 53 393215) rfl rfl (any_of HT_.out (by kernel_rfl)) (fun _ _ _ h => h) (Or.inl ⟨by rfl, ?_⟩) ?_ ?_
            rotate_left
            · intro w'
              go_simp
              with_reducible rfl
            rotate_left
            · simp only [Act.put, List.setIfInBounds_toArray, List.set_cons_zero, List.set_cons_succ, i64_w, i32_w]
              rfl
            refine pure_ (i := 19) (N := some 44) (v := ?_) (a' := ?_) (Go.Proofs.YthphgkhmeobadabX.bA 53 917503) rfl rfl (any_of HT_.out (by kernel_rfl)) (fun _ _ _ h => h) (Or.inl ⟨by rfl, ?_⟩) ?_ ?_
            rotate_left
            · intro w'
              go_simp
              with_reducible rfl
            rotate_left
            · simp only [Act.put, List.setIfInBounds_toArray, List.set_cons_zero, List.set_cons_succ, i64_w, i32_w]
              rfl
            refine take_ (i := 17) (N := some 42) (v := ?_) (a' := ?_) (Go.Proofs.YthphgkhmeobadabX.bA 53 1048575) rfl rfl (take_ofW HT_.out HW_.out (by kernel_rfl)) (fun _ _ _ h => h) (Or.inl ⟨by rfl, ?_⟩) hHeld ?_ ?_
            rotate_left
            · rintro w' ⟨s0, s1, s2, s3, s4⟩
              go_simp
              with_reducible rfl
            rotate_left
            · simp only [Act.put, List.setIfInBounds_toArray, List.set_cons_zero, List.set_cons_succ, i64_w, i32_w]
              rfl
            refine one_ (i := 20) (N := some 45) (Go.Proofs.YthphgkhmeobadabX.bA 53 2097151) rfl rfl (one_of HT_.out (by kernel_rfl)) (by decide) (fun K hK => ?_)
            refine goes_ Try.func47 (by kernel_rfl) rfl #[.int .i64 ((rd_T85 l0_1 x).f2), .int .i64 0, .int .i64 (wrap64 (x + 1))] (by rfl) rfl rfl (by (try simp only [List.map_toArray, List.map_cons, List.map_nil]); first | done | rfl) ?_
            with_reducible refine (impl_in.calls ((rd_T85 l0_1 x).f2) 0 (wrap64 (x + 1)) true _ HT3.out).mono ?_
            rintro e wn ⟨rfl, hd⟩
            have hb := hd.below
            clear hd
            refine ⟨_, rfl, ?_⟩
            have n0_ := Aside0.mk ((hb.block _ (blk_lt BKF.out)).trans BKF.out)
            have n1_ := Aside0.mk ((hb.block _ (blk_lt BKD.out)).trans BKD.out)
            have n2_ := Aside0.mk (HM.out.below hb)
            have n3_ := Aside0.mk (below_step HB.out hb)
            clear BKF BKD HM HB
            have BKF := n0_
            have BKD := n1_
            have HM := n2_
            have HB := n3_
            clear n0_ n1_ n2_ n3_ hb
            refine hK.out _ _ ⟨(blk_cell BKD.out 0).trans rfl, (blk_cell BKD.out 1).trans rfl, (blk_cell BKF.out 0).trans rfl, (blk_cell BKF.out 1).trans rfl, (blk_cell BKF.out 2).trans rfl⟩ (fun hHeld => ?_)
            clear hK K
            refine norm_ (a' := ?_) ?_ ?_
            rotate_left
            · show Act.put _ (some 45) _ = _
              simp only [Act.put, List.setIfInBounds_toArray, List.set_cons_zero, List.set_cons_succ, i64_w, i32_w]
              rfl
            refine pure_ (i := 21) (N := some 46) (v := ?_) (a' := ?_) (Go.Proofs.YthphgkhmeobadabX.bA 53 4194303) rfl rfl (any_of HT_.out (by kernel_rfl)) (fun _ _ _ h => h) (Or.inl ⟨by rfl, ?_⟩) ?_ ?_
            rotate_left
            · intro w'
              go_simp
              with_reducible rfl
            rotate_left
            · simp only [Act.put, List.setIfInBounds_toArray, List.set_cons_zero, List.set_cons_succ, i64_w, i32_w]
              rfl
            refine pure_ (i := 22) (N := some 47) (v := ?_) (a' := ?_) (Go.Proofs.YthphgkhmeobadabX.bA 53 8388607) rfl rfl (any_of HT_.out (by kernel_rfl)) (fun _ _ _ h => h) (Or.inl ⟨by rfl, ?_⟩) ?_ ?_
            rotate_left
            · intro w'
              go_simp
              with_reducible rfl
            rotate_left
            · simp only [Act.put, List.setIfInBounds_toArray, List.set_cons_zero, List.set_cons_succ, i64_w, i32_w]
              rfl
            refine pure_ (i := 23) (N := some 48) (v := ?_) (a' := ?_) (Go.Proofs.YthphgkhmeobadabX.bA 53 16777215) rfl rfl (any_of HT_.out (by kernel_rfl)) (fun _ _ _ h => h) (Or.inl ⟨by rfl, ?_⟩) ?_ ?_
            rotate_left
            · intro w'
              go_simp
              with_reducible rfl
            rotate_left
            · simp only [Act.put, List.setIfInBounds_toArray, List.set_cons_zero, List.set_cons_succ, i64_w, i32_w]
              rfl
            refine pure_ (i := 24) (N := some 49) (v := ?_) (a' := ?_) (Go.Proofs.YthphgkhmeobadabX.bA 53 33554431) rfl rfl (any_of HT_.out (by kernel_rfl)) (fun _ _ _ h => h) (Or.inl ⟨by rfl, ?_⟩) ?_ ?_
            rotate_left
            · intro w'
              go_simp
              with_reducible rfl
            rotate_left
            · simp only [Act.put, List.setIfInBounds_toArray, List.set_cons_zero, List.set_cons_succ, i64_w, i32_w]
              rfl
            refine pure_ (i := 26) (N := some 51) (v := ?_) (a' := ?_) (Go.Proofs.YthphgkhmeobadabX.bA 53 100663295) rfl rfl (any_of HT_.out (by kernel_rfl)) (fun _ _ _ h => h) (Or.inl ⟨by rfl, ?_⟩) ?_ ?_
            rotate_left
            · intro w'
              go_simp
              with_reducible rfl
            rotate_left
            · simp only [Act.put, List.setIfInBounds_toArray, List.set_cons_zero, List.set_cons_succ, i64_w, i32_w]
              rfl
            refine take_ (i := 25) (N := some 50) (v := ?_) (a' := ?_) (Go.Proofs.YthphgkhmeobadabX.bA 53 134217727) rfl rfl (take_ofW HT_.out HW_.out (by kernel_rfl)) (fun _ _ _ h => h) (Or.inl ⟨by rfl, ?_⟩) hHeld ?_ ?_
            rotate_left
            · rintro w' ⟨s0, s1, s2, s3, s4⟩
              go_simp
              with_reducible rfl
            rotate_left
            · simp only [Act.put, List.setIfInBounds_toArray, List.set_cons_zero, List.set_cons_succ, i64_w, i32_w]
              rfl
            refine take_ (i := 27) (N := some 52) (v := ?_) (a' := ?_) (Go.Proofs.YthphgkhmeobadabX.bA 53 268435455) rfl rfl (take_ofW HT_.out HW_.out (by kernel_rfl)) (fun _ _ _ h => h) (Or.inl ⟨by rfl, ?_⟩) hHeld ?_ ?_
            rotate_left
            · rintro w' ⟨s0, s1, s2, s3, s4⟩
              go_simp
              with_reducible rfl
            rotate_left
            · simp only [Act.put, List.setIfInBounds_toArray, List.set_cons_zero, List.set_cons_succ, i64_w, i32_w]
              rfl
            refine pure_ (i := 28) (N := some 53) (v := ?_) (a' := ?_) (Go.Proofs.YthphgkhmeobadabX.bA 53 536870911) rfl rfl (any_of HT_.out (by kernel_rfl)) (fun _ _ _ h => h) (Or.inl ⟨by rfl, ?_⟩) ?_ ?_
            rotate_left
            · intro w'
              go_simp
              with_reducible rfl
            rotate_left
            · simp only [Act.put, List.setIfInBounds_toArray, List.set_cons_zero, List.set_cons_succ, i64_w, i32_w]
              rfl
            refine pure_ (i := 29) (N := some 54) (v := ?_) (a' := ?_) (Go.Proofs.YthphgkhmeobadabX.bA 53 1073741823) rfl rfl (any_of HT_.out (by kernel_rfl)) (fun _ _ _ h => h) (Or.inl ⟨by rfl, ?_⟩) ?_ ?_
            rotate_left
            · intro w'
              go_simp
              with_reducible rfl
            rotate_left
            · simp only [Act.put, List.setIfInBounds_toArray, List.set_cons_zero, List.set_cons_succ, i64_w, i32_w]
              rfl
            refine pure_ (i := 30) (N := some 55) (v := ?_) (a' := ?_) (Go.Proofs.YthphgkhmeobadabX.bA 53 2147483647) rfl rfl (any_of HT_.out (by kernel_rfl)) (fun _ _ _ h => h) (Or.inl ⟨by rfl, ?_⟩) ?_ ?_
            rotate_left
            · intro w'
              go_simp
              with_reducible rfl
            rotate_left
            · simp only [Act.put, List.setIfInBounds_toArray, List.set_cons_zero, List.set_cons_succ, i64_w, i32_w]
              rfl
            refine pure_ (i := 32) (N := some 57) (v := ?_) (a' := ?_) (Go.Proofs.YthphgkhmeobadabX.bA 53 6442450943) rfl rfl (any_of HT_.out (by kernel_rfl)) (fun _ _ _ h => h) (Or.inl ⟨by rfl, ?_⟩) ?_ ?_
            rotate_left
            · intro w'
              go_simp
              with_reducible rfl
            rotate_left
            · simp only [Act.put, List.setIfInBounds_toArray, List.set_cons_zero, List.set_cons_succ, i64_w, i32_w]
              rfl
            refine pure_ (i := 35) (N := some 60) (v := ?_) (a' := ?_) (Go.Proofs.YthphgkhmeobadabX.bA 53 40802189311) rfl rfl (any_of HT_.out (by kernel_rfl)) (fun _ _ _ h => h) (Or.inl ⟨by rfl, ?_⟩) ?_ ?_
            rotate_left
            · intro w'
              go_simp
              with_reducible rfl
            rotate_left
            · simp only [Act.put, List.setIfInBounds_toArray, List.set_cons_zero, List.set_cons_succ, i64_w, i32_w]
              rfl
            refine take_ (i := 31) (N := some 56) (v := ?_) (a' := ?_) (Go.Proofs.YthphgkhmeobadabX.bA 53 42949672959) rfl rfl (take_ofW HT_.out HW_.out (by kernel_rfl)) (fun _ _ _ h => h) (Or.inl ⟨by rfl, ?_⟩) hHeld ?_ ?_
            rotate_left
            · rintro w' ⟨s0, s1, s2, s3, s4⟩
              go_simp
              with_reducible rfl
            rotate_left
            · simp only [Act.put, List.setIfInBounds_toArray, List.set_cons_zero, List.set_cons_succ, i64_w, i32_w]
              rfl
            refine take_ (i := 33) (N := some 58) (v := ?_) (a' := ?_) (Go.Proofs.YthphgkhmeobadabX.bA 53 51539607551) rfl rfl (take_ofW HT_.out HW_.out (by kernel_rfl)) (fun _ _ _ h => h) (Or.inl ⟨by rfl, ?_⟩) hHeld ?_ ?_
            rotate_left
            · rintro w' ⟨s0, s1, s2, s3, s4⟩
              go_simp
              with_reducible rfl
            rotate_left
            · simp only [Act.put, List.setIfInBounds_toArray, List.set_cons_zero, List.set_cons_succ, i64_w, i32_w]
              rfl
            refine take_ (i := 36) (N := some 61) (v := ?_) (a' := ?_) (Go.Proofs.YthphgkhmeobadabX.bA 53 120259084287) rfl rfl (take_ofW HT_.out HW_.out (by kernel_rfl)) (fun _ _ _ h => h) (Or.inl ⟨by rfl, ?_⟩) hHeld ?_ ?_
            rotate_left
            · rintro w' ⟨s0, s1, s2, s3, s4⟩
              go_simp
              with_reducible rfl
            rotate_left
            · simp only [Act.put, List.setIfInBounds_toArray, List.set_cons_zero, List.set_cons_succ, i64_w, i32_w]
              rfl
            refine one_ (i := 34) (N := some 59) (Go.Proofs.YthphgkhmeobadabX.bA 53 137438953471) rfl rfl (one_of HT_.out (by kernel_rfl)) (by decide) (fun K hK => ?_)
            refine goes_ Try.func63 (by kernel_rfl) rfl #[.agg #[.int .i64 a0_0, .slice (some ad) l0_1.length c0_1], .int .i64 ((rd_T85 l0_1 x).f1)] (by rfl) rfl rfl (by (try simp only [List.map_toArray, List.map_cons, List.map_nil]); first | done | rfl) ?_
            with_reducible refine (impl_Diagram_varAt.calls a0_0 _ _ l0_1 ((rd_T85 l0_1 x).f1) v1 _ ?side1 ?side2 HV1.out).mono ?_
            (case side1 => exact Kd.C_below HR.out HB.out)
            (case side2 => exact HC.out)
            rintro e wn ⟨rfl, hb⟩
            refine ⟨_, rfl, ?_⟩
            have n0_ := Aside0.mk ((hb.block _ (blk_lt BKF.out)).trans BKF.out)
            have n1_ := Aside0.mk ((hb.block _ (blk_lt BKD.out)).trans BKD.out)
            have n2_ := Aside0.mk (HM.out.below hb)
            have n3_ := Aside0.mk (below_step HB.out hb)
            clear BKF BKD HM HB
            have BKF := n0_
            have BKD := n1_
            have HM := n2_
            have HB := n3_
            clear n0_ n1_ n2_ n3_ hb
            refine hK.out _ _ ⟨(blk_cell BKD.out 0).trans rfl, (blk_cell BKD.out 1).trans rfl, (blk_cell BKF.out 0).trans rfl, (blk_cell BKF.out 1).trans rfl, (blk_cell BKF.out 2).trans rfl⟩ (fun hHeld => ?_)
            clear hK K
            refine norm_ (a' := ?_) ?_ ?_
            rotate_left
            · show Act.put _ (some 59) _ = _
              simp only [Act.put, List.setIfInBounds_toArray, List.set_cons_zero, List.set_cons_succ, i64_w, i32_w]
              rfl
            refine pure_ (i := 37) (N := some 62) (v := ?_) (a' := ?_) (Go.Proofs.YthphgkhmeobadabX.bA 53 274877906943) rfl rfl (any_of HT_.out (by kernel_rfl)) (fun _ _ _ h => h) (Or.inl ⟨by rfl, ?_⟩) ?_ ?_
            rotate_left
            · intro w'
              go_simp
              with_reducible rfl
            rotate_left
            · simp only [Act.put, List.setIfInBounds_toArray, List.set_cons_zero, List.set_cons_succ, i64_w, i32_w]
              rfl
            refine pure_ (i := 38) (N := some 63) (v := ?_) (a' := ?_) (Go.Proofs.YthphgkhmeobadabX.bA 53 549755813887) rfl rfl (any_of HT_.out (by kernel_rfl)) (fun _ _ _ h => h) (Or.inl ⟨by rfl, ?_⟩) ?_ ?_
            rotate_left
            · intro w'
              go_simp
              with_reducible rfl
            rotate_left
            · simp only [Act.put, List.setIfInBounds_toArray, List.set_cons_zero, List.set_cons_succ, i64_w, i32_w]
              rfl
            refine pure_ (i := 39) (N := some 64) (v := ?_) (a' := ?_) (Go.Proofs.YthphgkhmeobadabX.bA 53 1099511627775) rfl rfl (any_of HT_.out (by kernel_rfl)) (fun _ _ _ h => h) (Or.inl ⟨by rfl, ?_⟩) ?_ ?_
            rotate_left
            · intro w'
              go_simp
              with_reducible rfl
            rotate_left
            · simp only [Act.put, List.setIfInBounds_toArray, List.set_cons_zero, List.set_cons_succ, i64_w, i32_w]
              rfl
            refine pure_ (i := 40) (N := some 65) (v := undef) (a' := ?_) (Go.Proofs.YthphgkhmeobadabX.bA 53 2199023255551) rfl rfl (any_of HT_.out (by kernel_rfl)) (fun _ _ _ h => h) (Or.inr ⟨by rfl, rfl⟩) ?_ ?_
            rotate_left
            · simp only [Act.put, List.setIfInBounds_toArray, List.set_cons_zero, List.set_cons_succ, i64_w, i32_w]
              rfl
            refine pure_ (i := 41) (N := some 66) (v := undef) (a' := ?_) (Go.Proofs.YthphgkhmeobadabX.bA 53 4398046511103) rfl rfl (any_of HT_.out (by kernel_rfl)) (fun _ _ _ h => h) (Or.inr ⟨by rfl, rfl⟩) ?_ ?_
            rotate_left
            · simp only [Act.put, List.setIfInBounds_toArray, List.set_cons_zero, List.set_cons_succ, i64_w, i32_w]
              rfl
            refine pure_ (i := 42) (N := some 67) (v := undef) (a' := ?_) (Go.Proofs.YthphgkhmeobadabX.bA 53 8796093022207) rfl rfl (any_of HT_.out (by kernel_rfl)) (fun _ _ _ h => h) (Or.inr ⟨by rfl, rfl⟩) ?_ ?_
            rotate_left
            · simp only [Act.put, List.setIfInBounds_toArray, List.set_cons_zero, List.set_cons_succ, i64_w, i32_w]
              rfl
            refine pure_ (i := 43) (N := some 68) (v := undef) (a' := ?_) (Go.Proofs.YthphgkhmeobadabX.bA 53 17592186044415) rfl rfl (any_of HT_.out (by kernel_rfl)) (fun _ _ _ h => h) (Or.inr ⟨by rfl, rfl⟩) ?_ ?_
            rotate_left
            · simp only [Act.put, List.setIfInBounds_toArray, List.set_cons_zero, List.set_cons_succ, i64_w, i32_w]
              rfl
            refine pure_ (i := 44) (N := some 69) (v := undef) (a' := ?_) (Go.Proofs.YthphgkhmeobadabX.bA 53 35184372088831) rfl rfl (any_of HT_.out (by kernel_rfl)) (fun _ _ _ h => h) (Or.inr ⟨by rfl, rfl⟩) ?_ ?_
            rotate_left
            · simp only [Act.put, List.setIfInBounds_toArray, List.set_cons_zero, List.set_cons_succ, i64_w, i32_w]
              rfl
            refine pure_ (i := 45) (N := some 70) (v := undef) (a' := ?_) (Go.Proofs.YthphgkhmeobadabX.bA 53 70368744177663) rfl rfl (any_of HT_.out (by kernel_rfl)) (fun _ _ _ h => h) (Or.inr ⟨by rfl, rfl⟩) ?_ ?_
            rotate_left
            · simp only [Act.put, List.setIfInBounds_toArray, List.set_cons_zero, List.set_cons_succ, i64_w, i32_w]
              rfl
            refine pure_ (i := 46) (N := some 71) (v := undef) (a' := ?_) (Go.Proofs.YthphgkhmeobadabX.bA 53 140737488355327) rfl rfl (any_of HT_.out (by kernel_rfl)) (fun _ _ _ h => h) (Or.inr ⟨by rfl, rfl⟩) ?_ ?_
            rotate_left
            · simp only [Act.put, List.setIfInBounds_toArray, List.set_cons_zero, List.set_cons_succ, i64_w, i32_w]
              rfl
            refine pure_ (i := 47) (N := some 72) (v := ?_) (a' := ?_) (Go.Proofs.YthphgkhmeobadabX.bA 53 281474976710655) rfl rfl (any_of HT_.out (by kernel_rfl)) (fun _ _ _ h => h) (Or.inl ⟨by rfl, ?_⟩) ?_ ?_
            rotate_left
            · intro w'
              go_simp
              with_reducible rfl
            rotate_left
            · simp only [Act.put, List.setIfInBounds_toArray, List.set_cons_zero, List.set_cons_succ, i64_w, i32_w]
              rfl
            refine pure_ (i := 48) (N := some 73) (v := ?_) (a' := ?_) (Go.Proofs.YthphgkhmeobadabX.bA 53 562949953421311) rfl rfl (any_of HT_.out (by kernel_rfl)) (fun _ _ _ h => h) (Or.inl ⟨by rfl, ?_⟩) ?_ ?_
            rotate_left
            · intro w'
              go_simp
              with_reducible rfl
            rotate_left
            · simp only [Act.put, List.setIfInBounds_toArray, List.set_cons_zero, List.set_cons_succ, i64_w, i32_w]
              rfl
            refine pure_ (i := 49) (N := some 74) (v := undef) (a' := ?_) (Go.Proofs.YthphgkhmeobadabX.bA 53 1125899906842623) rfl rfl (any_of HT_.out (by kernel_rfl)) (fun _ _ _ h => h) (Or.inr ⟨by rfl, rfl⟩) ?_ ?_
            rotate_left
            · simp only [Act.put, List.setIfInBounds_toArray, List.set_cons_zero, List.set_cons_succ, i64_w, i32_w]
              rfl
            refine pure_ (i := 50) (N := some 75) (v := undef) (a' := ?_) (Go.Proofs.YthphgkhmeobadabX.bA 53 2251799813685247) rfl rfl (any_of HT_.out (by kernel_rfl)) (fun _ _ _ h => h) (Or.inr ⟨by rfl, rfl⟩) ?_ ?_
            rotate_left
            · simp only [Act.put, List.setIfInBounds_toArray, List.set_cons_zero, List.set_cons_succ, i64_w, i32_w]
              rfl
            refine pure_ (i := 51) (N := some 76) (v := undef) (a' := ?_) (Go.Proofs.YthphgkhmeobadabX.bA 53 4503599627370495) rfl rfl (any_of HT_.out (by kernel_rfl)) (fun _ _ _ h => h) (Or.inr ⟨by rfl, rfl⟩) ?_ ?_
            rotate_left
            · simp only [Act.put, List.setIfInBounds_toArray, List.set_cons_zero, List.set_cons_succ, i64_w, i32_w]
              rfl
            refine pure_ (i := 52) (N := some 77) (v := ?_) (a' := ?_) (Go.Proofs.YthphgkhmeobadabX.bA 53 9007199254740991) rfl rfl (any_of HT_.out (by kernel_rfl)) (fun _ _ _ h => h) (Or.inl ⟨by rfl, ?_⟩) ?_ ?_
            rotate_left
            · intro w'
              go_simp
              with_reducible rfl
            rotate_left
            · simp only [Act.put, List.setIfInBounds_toArray, List.set_cons_zero, List.set_cons_succ, i64_w, i32_w]
              rfl
            refine done_ (done_of HT_.out (by kernel_rfl)) ?_
            try go_wp2
            go_ret
            exact ⟨rfl, HB.out⟩
          · skip
            have HT1 := Aside0.mk ht1
            have HT2 := Aside0.mk ht2
            have HT3 := Aside0.mk ht3
            have HV1 := Aside0.mk hv1
            have HV2 := Aside0.mk hv2
            clear ht1 ht2 ht3 hv1 hv2
            have h4b : (((rd_T85 l0_1 x).f1) == ((rd_T85 l0_1 x).f2)) = false := beq_eq_false_iff_ne.mpr h4
            clear h4
            have h5b : decide (v1 ≤ ((rd_T85 l0_1 x).f0)) = false := decide_eq_false h5
            clear h5
            have h6b : decide (v2 ≤ ((rd_T85 l0_1 x).f0)) = true := decide_eq_true h6
            clear h6
            have hr := HGO.out
            rw [if_neg (by decide)] at hr
            obtain rfl := Option.some.inj hr
            clear hr
            refine start_ (n := 53) (S := fun w' => w'.cell? ⟨gd, 0, none⟩ = some (.int .i64 a0_0) ∧ w'.cell? ⟨gd, 1, none⟩ = some (.slice (some ad) l0_1.length c0_1) ∧ w'.cell? ⟨gf, 0, none⟩ = some (.int .i64 ((rd_T85 l0_1 x).f0)) ∧ w'.cell? ⟨gf, 1, none⟩ = some (.int .i64 ((rd_T85 l0_1 x).f1)) ∧ w'.cell? ⟨gf, 2, none⟩ = some (.int .i64 ((rd_T85 l0_1 x).f2))) (ds := []) #[false, false, false, false, false, false, false, false, false, false, false, false, false, false, false, false, false, false, false, false, false, false, false, false, false, false, false, false, false, false, false, false, false, false, false, false, false, false, false, false, false, false, false, false, false, false, false, false, false, false, false, false, false] (by kernel_rfl) rfl rfl ⟨(blk_cell BKD.out 0).trans rfl, (blk_cell BKD.out 1).trans rfl, (blk_cell BKF.out 0).trans rfl, (blk_cell BKF.out 1).trans rfl, (blk_cell BKF.out 2).trans rfl⟩ (fun hHeld => ?_)
            refine with_tabW impl_DiagramValid.tab7 impl_DiagramValid.bits7 (fun HT_ HW_ => ?_)
            generalize wz.drew = wy at BKF BKD HM HB hHeld ⊢
            refine pure_ (i := 0) (N := some 25) (v := ?_) (a' := ?_) (Go.Proofs.YthphgkhmeobadabX.bA 53 1) rfl rfl (any_of HT_.out (by kernel_rfl)) (fun _ _ _ h => h) (Or.inl ⟨by rfl, ?_⟩) ?_ ?_
            rotate_left
            · intro w'
              go_simp
              with_reducible rfl
            rotate_left
            · simp only [Act.put, List.setIfInBounds_toArray, List.set_cons_zero, List.set_cons_succ, i64_w, i32_w]
              rfl
            refine pure_ (i := 2) (N := some 27) (v := ?_) (a' := ?_) (Go.Proofs.YthphgkhmeobadabX.bA 53 5) rfl rfl (any_of HT_.out (by kernel_rfl)) (fun _ _ _ h => h) (Or.inl ⟨by rfl, ?_⟩) ?_ ?_
            rotate_left
            · intro w'
              go_simp
              with_reducible rfl
            rotate_left
            · simp only [Act.put, List.setIfInBounds_toArray, List.set_cons_zero, List.set_cons_succ, i64_w, i32_w]
              rfl
            refine take_ (i := 1) (N := some 26) (v := ?_) (a' := ?_) (Go.Proofs.YthphgkhmeobadabX.bA 53 7) rfl rfl (take_ofW HT_.out HW_.out (by kernel_rfl)) (fun _ _ _ h => h) (Or.inl ⟨by rfl, ?_⟩) hHeld ?_ ?_
            rotate_left
            · rintro w' ⟨s0, s1, s2, s3, s4⟩
              go_simp
              with_reducible rfl
            rotate_left
            · simp only [Act.put, List.setIfInBounds_toArray, List.set_cons_zero, List.set_cons_succ, i64_w, i32_w]
              rfl
            refine take_ (i := 3) (N := some 28) (v := ?_) (a' := ?_) (Go.Proofs.YthphgkhmeobadabX.bA 53 15) rfl rfl (take_ofW HT_.out HW_.out (by kernel_rfl)) (fun _ _ _ h => h) (Or.inl ⟨by rfl, ?_⟩) hHeld ?_ ?_
            rotate_left
            · rintro w' ⟨s0, s1, s2, s3, s4⟩
              go_simp
              with_reducible rfl
            rotate_left
            · simp only [Act.put, List.setIfInBounds_toArray, List.set_cons_zero, List.set_cons_succ, i64_w, i32_w]
              rfl
            refine pure_ (i := 4) (N := some 29) (v := ?_) (a' := ?_) (Go.Proofs.YthphgkhmeobadabX.bA 53 31) rfl rfl (any_of HT_.out (by kernel_rfl)) (fun _ _ _ h => h) (Or.inl ⟨by rfl, ?_⟩) ?_ ?_
            rotate_left
            · intro w'
              go_simp
              with_reducible rfl
            rotate_left
            · simp only [Act.put, List.setIfInBounds_toArray, List.set_cons_zero, List.set_cons_succ, i64_w, i32_w]
              rfl
            refine one_ (i := 5) (N := some 30) (Go.Proofs.YthphgkhmeobadabX.bA 53 63) rfl rfl (one_of HT_.out (by kernel_rfl)) (by decide) (fun K hK => ?_)
            refine goes_ Try.func47 (by kernel_rfl) rfl #[.int .i64 ((rd_T85 l0_1 x).f0), .int .i64 0, .int .i64 (wrap64 (a0_0 - 1))] (by rfl) rfl rfl (by (try simp only [List.map_toArray, List.map_cons, List.map_nil]); first | done | rfl) ?_
            with_reducible refine (impl_in.calls ((rd_T85 l0_1 x).f0) 0 (wrap64 (a0_0 - 1)) true _ HT1.out).mono ?_
            rintro e wn ⟨rfl, hd⟩
            have hb := hd.below
            clear hd
            refine ⟨_, rfl, ?_⟩
            have n0_ := Aside0.mk ((hb.block _ (blk_lt BKF.out)).trans BKF.out)
            have n1_ := Aside0.mk ((hb.block _ (blk_lt BKD.out)).trans BKD.out)
            have n2_ := Aside0.mk (HM.out.below hb)
            have n3_ := Aside0.mk (below_step HB.out hb)
            clear BKF BKD HM HB
            have BKF := n0_
            have BKD := n1_
            have HM := n2_
            have HB := n3_
            clear n0_ n1_ n2_ n3_ hb
            refine hK.out _ _ ⟨(blk_cell BKD.out 0).trans rfl, (blk_cell BKD.out 1).trans rfl, (blk_cell BKF.out 0).trans rfl, (blk_cell BKF.out 1).trans rfl, (blk_cell BKF.out 2).trans rfl⟩ (fun hHeld => ?_)
            clear hK K
            refine norm_ (a' := ?_) ?_ ?_
            rotate_left
            · show Act.put _ (some 30) _ = _
              simp only [Act.put, List.setIfInBounds_toArray, List.set_cons_zero, List.set_cons_succ, i64_w, i32_w]
              rfl
            refine pure_ (i := 6) (N := some 31) (v := ?_) (a' := ?_) (Go.Proofs.YthphgkhmeobadabX.bA 53 127) rfl rfl (any_of HT_.out (by kernel_rfl)) (fun _ _ _ h => h) (Or.inl ⟨by rfl, ?_⟩) ?_ ?_
            rotate_left
            · intro w'
              go_simp
              with_reducible rfl
            rotate_left
            · simp only [Act.put, List.setIfInBounds_toArray, List.set_cons_zero, List.set_cons_succ, i64_w, i32_w]
              rfl
            refine pure_ (i := 7) (N := some 32) (v := ?_) (a' := ?_) (Go.Proofs.YthphgkhmeobadabX.bA 53 255) rfl rfl (any_of HT_.out (by kernel_rfl)) (fun _ _ _ h => h) (Or.inl ⟨by rfl, ?_⟩) ?_ ?_
            rotate_left
            · intro w'
              go_simp
              with_reducible rfl
            rotate_left
            · simp only [Act.put, List.setIfInBounds_toArray, List.set_cons_zero, List.set_cons_succ, i64_w, i32_w]
              rfl
            refine pure_ (i := 8) (N := some 33) (v := ?_) (a' := ?_) (Go.Proofs.YthphgkhmeobadabX.bA 53 511) rfl rfl (any_of HT_.out (by kernel_rfl)) (fun _ _ _ h => h) (Or.inl ⟨by rfl, ?_⟩) ?_ ?_
            rotate_left
            · intro w'
              go_simp
              with_reducible rfl
            rotate_left
            · simp only [Act.put, List.setIfInBounds_toArray, List.set_cons_zero, List.set_cons_succ, i64_w, i32_w]
              rfl
            refine pure_ (i := 10) (N := some 35) (v := ?_) (a' := ?_) (Go.Proofs.YthphgkhmeobadabX.bA 53 1535) rfl rfl (any_of HT_.out (by kernel_rfl)) (fun _ _ _ h => h) (Or.inl ⟨by rfl, ?_⟩) ?_ ?_
            rotate_left
            · intro w'
              go_simp
              with_reducible rfl
            rotate_left
            · simp only [Act.put, List.setIfInBounds_toArray, List.set_cons_zero, List.set_cons_succ, i64_w, i32_w]
              rfl
            refine pure_ (i := 11) (N := some 36) (v := ?_) (a' := ?_) (Go.Proofs.YthphgkhmeobadabX.bA 53 3583) rfl rfl (any_of HT_.out (by kernel_rfl)) (fun _ _ _ h => h) (Or.inl ⟨by rfl, ?_⟩) ?_ ?_
            rotate_left
            · intro w'
              go_simp
              with_reducible rfl
            rotate_left
            · simp only [Act.put, List.setIfInBounds_toArray, List.set_cons_zero, List.set_cons_succ, i64_w, i32_w]
              rfl
            refine take_ (i := 9) (N := some 34) (v := ?_) (a' := ?_) (Go.Proofs.YthphgkhmeobadabX.bA 53 4095) rfl rfl (take_ofW HT_.out HW_.out (by kernel_rfl)) (fun _ _ _ h => h) (Or.inl ⟨by rfl, ?_⟩) hHeld ?_ ?_
            rotate_left
            · rintro w' ⟨s0, s1, s2, s3, s4⟩
              go_simp
              with_reducible rfl
            rotate_left
            · simp only [Act.put, List.setIfInBounds_toArray, List.set_cons_zero, List.set_cons_succ, i64_w, i32_w]
              rfl
            refine one_ (i := 12) (N := some 37) (Go.Proofs.YthphgkhmeobadabX.bA 53 8191) rfl rfl (one_of HT_.out (by kernel_rfl)) (by decide) (fun K hK => ?_)
            refine goes_ Try.func47 (by kernel_rfl) rfl #[.int .i64 ((rd_T85 l0_1 x).f1), .int .i64 0, .int .i64 (wrap64 (x + 1))] (by rfl) rfl rfl (by (try simp only [List.map_toArray, List.map_cons, List.map_nil]); first | done | rfl) ?_
            with_reducible refine (impl_in.calls ((rd_T85 l0_1 x).f1) 0 (wrap64 (x + 1)) true _ HT2.out).mono ?_
            rintro e wn ⟨rfl, hd⟩
            have hb := hd.below
            clear hd
            refine ⟨_, rfl, ?_⟩
            have n0_ := Aside0.mk ((hb.block _ (blk_lt BKF.out)).trans BKF.out)
            have n1_ := Aside0.mk ((hb.block _ (blk_lt BKD.out)).trans BKD.out)
            have n2_ := Aside0.mk (HM.out.below hb)
            have n3_ := Aside0.mk (below_step HB.out hb)
            clear BKF BKD HM HB
            have BKF := n0_
            have BKD := n1_
            have HM := n2_
            have HB := n3_
            clear n0_ n1_ n2_ n3_ hb
            refine hK.out _ _ ⟨(blk_cell BKD.out 0).trans rfl, (blk_cell BKD.out 1).trans rfl, (blk_cell BKF.out 0).trans rfl, (blk_cell BKF.out 1).trans rfl, (blk_cell BKF.out 2).trans rfl⟩ (fun hHeld => ?_)
            clear hK K
            refine norm_ (a' := ?_) ?_ ?_
            rotate_left
            · show Act.put _ (some 37) _ = _
              simp only [Act.put, List.setIfInBounds_toArray, List.set_cons_zero, List.set_cons_succ, i64_w, i32_w]
              rfl
            refine pure_ (i := 13) (N := some 38) (v := ?_) (a' := ?_) (Go.Proofs.YthphgkhmeobadabX.bA 53 16383) rfl rfl (any_of HT_.out (by kernel_rfl)) (fun _ _ _ h => h) (Or.inl ⟨by rfl, ?_⟩) ?_ ?_
            rotate_left
            · intro w'
              go_simp
              with_reducible rfl
            rotate_left
            · simp only [Act.put, List.setIfInBounds_toArray, List.set_cons_zero, List.set_cons_succ, i64_w, i32_w]
              rfl
            refine pure_ (i := 14) (N := some 39) (v := ?_) (a' := ?_) (Go.Proofs.YthphgkhmeobadabX.bA 53 32767) rfl rfl (any_of HT_.out (by kernel_rfl)) (fun _ _ _ h => h) (Or.inl ⟨by rfl, ?_⟩) ?_ ?_
            rotate_left
            · intro w'
              go_simp
              with_reducible rfl
            rotate_left
            · simp only [Act.put, List.setIfInBounds_toArray, List.set_cons_zero, List.set_cons_succ, i64_w, i32_w]
              rfl
            refine pure_ (i := 15) (N := some 40) (v := ?_) (a' := ?_) (Go.Proofs.YthphgkhmeobadabX.bA 53 65535) rfl rfl (any_of HT_.out (by kernel_rfl)) (fun _ _ _ h => h) (Or.inl ⟨by rfl, ?_⟩) ?_ ?_
            rotate_left
            · intro w'
              go_simp
              with_reducible rfl
            rotate_left
            · simp only [Act.put, List.setIfInBounds_toArray, List.set_cons_zero, List.set_cons_succ, i64_w, i32_w]
              rfl
            refine pure_ (i := 16) (N := some 41) (v := ?_) (a' := ?_) (Go.Proofs.YthphgkhmeobadabX.bA 53 131071) rfl rfl (any_of HT_.out (by kernel_rfl)) (fun _ _ _ h => h) (Or.inl ⟨by rfl, ?_⟩) ?_ ?_
            rotate_left
            · intro w'
              go_simp
              with_reducible rfl
            rotate_left
            · simp only [Act.put, List.setIfInBounds_toArray, List.set_cons_zero, List.set_cons_succ, i64_w, i32_w]
              rfl
            refine pure_ (i := 18) (N := some 43) (v := ?_) (a' := ?_) (Go.Proofs.YthphgkhmeobadabX.bA 53 393215) rfl rfl (any_of HT_.out (by kernel_rfl)) (fun _ _ _ h => h) (Or.inl ⟨by rfl, ?_⟩) ?_ ?_
            rotate_left
            · intro w'
              go_simp
              with_reducible rfl
            rotate_left
            · simp only [Act.put, List.setIfInBounds_toArray, List.set_cons_zero, List.set_cons_succ, i64_w, i32_w]
              rfl
            refine pure_ (i := 19) (N := some 44) (v := ?_) (a' := ?_) (Go.Proofs.YthphgkhmeobadabX.bA 53 917503) rfl rfl (any_of HT_.out (by kernel_rfl)) (fun _ _ _ h => h) (Or.inl ⟨by rfl, ?_⟩) ?_ ?_
            rotate_left
            · intro w'
              go_simp
              with_reducible rfl
            rotate_left
            · simp only [Act.put, List.setIfInBounds_toArray, List.set_cons_zero, List.set_cons_succ, i64_w, i32_w]
              rfl
            refine take_ (i := 17) (N := some 42) (v := ?_) (a' := ?_) (Go.Proofs.YthphgkhmeobadabX.bA 53 1048575) rfl rfl (take_ofW HT_.out HW_.out (by kernel_rfl)) (fun _ _ _ h => h) (Or.inl ⟨by rfl, ?_⟩) hHeld ?_ ?_
            rotate_left
            · rintro w' ⟨s0, s1, s2, s3, s4⟩
              go_simp
              with_reducible rfl
            rotate_left
            · simp only [Act.put, List.setIfInBounds_toArray, List.set_cons_zero, List.set_cons_succ, i64_w, i32_w]
              rfl
            refine one_ (i := 20) (N := some 45) (Go.Proofs.YthphgkhmeobadabX.bA 53 2097151) rfl rfl (one_of HT_.out (by kernel_rfl)) (by decide) (fun K hK => ?_)
            refine goes_ Try.func47 (by kernel_rfl) rfl #[.int .i64 ((rd_T85 l0_1 x).f2), .int .i64 0, .int .i64 (wrap64 (x + 1))] (by rfl) rfl rfl (by (try simp only [List.map_toArray, List.map_cons, List.map_nil]); first | done | rfl) ?_
            with_reducible refine (impl_in.calls ((rd_T85 l0_1 x).f2) 0 (wrap64 (x + 1)) true _ HT3.out).mono ?_
            rintro e wn ⟨rfl, hd⟩
            have hb := hd.below
            clear hd
            refine ⟨_, rfl, ?_⟩
            have n0_ := Aside0.mk ((hb.block _ (blk_lt BKF.out)).trans BKF.out)
            have n1_ := Aside0.mk ((hb.block _ (blk_lt BKD.out)).trans BKD.out)
            have n2_ := Aside0.mk (HM.out.below hb)
            have n3_ := Aside0.mk (below_step HB.out hb)
            clear BKF BKD HM HB
            have BKF := n0_
            have BKD := n1_
            have HM := n2_
            have HB := n3_
            clear n0_ n1_ n2_ n3_ hb
            refine hK.out _ _ ⟨(blk_cell BKD.out 0).trans rfl, (blk_cell BKD.out 1).trans rfl, (blk_cell BKF.out 0).trans rfl, (blk_cell BKF.out 1).trans rfl, (blk_cell BKF.out 2).trans rfl⟩ (fun hHeld => ?_)
            clear hK K
            refine norm_ (a' := ?_) ?_ ?_
            rotate_left
            · show Act.put _ (some 45) _ = _
              simp only [Act.put, List.setIfInBounds_toArray, List.set_cons_zero, List.set_cons_succ, i64_w, i32_w]
              rfl
            refine pure_ (i := 21) (N := some 46) (v := ?_) (a' := ?_) (Go.Proofs.YthphgkhmeobadabX.bA 53 4194303) rfl rfl (any_of HT_.out (by kernel_rfl)) (fun _ _ _ h => h) (Or.inl ⟨by rfl, ?_⟩) ?_ ?_
            rotate_left
            · intro w'
              go_simp
              with_reducible rfl
            rotate_left
            · simp only [Act.put, List.setIfInBounds_toArray, List.set_cons_zero, List.set_cons_succ, i64_w, i32_w]
              rfl
            refine pure_ (i := 22) (N := some 47) (v := ?_) (a' := ?_) (Go.Proofs.YthphgkhmeobadabX.bA 53 8388607) rfl rfl (any_of HT_.out (by kernel_rfl)) (fun _ _ _ h => h) (Or.inl ⟨by rfl, ?_⟩) ?_ ?_
            rotate_left
            · intro w'
              go_simp
              with_reducible rfl
            rotate_left
            · simp only [Act.put, List.setIfInBounds_toArray, List.set_cons_zero, List.set_cons_succ, i64_w, i32_w]
              rfl
            refine pure_ (i := 23) (N := some 48) (v := ?_) (a' := ?_) (Go.Proofs.YthphgkhmeobadabX.bA 53 16777215) rfl rfl (any_of HT_.out (by kernel_rfl)) (fun _ _ _ h => h) (Or.inl ⟨by rfl, ?_⟩) ?_ ?_
            rotate_left
            · intro w'
              go_simp
              with_reducible rfl
            rotate_left
            · simp only [Act.put, List.setIfInBounds_toArray, List.set_cons_zero, List.set_cons_succ, i64_w, i32_w]
              rfl
            refine pure_ (i := 24) (N := some 49) (v := ?_) (a' := ?_) (Go.Proofs.YthphgkhmeobadabX.bA 53 33554431) rfl rfl (any_of HT_.out (by kernel_rfl)) (fun _ _ _ h => h) (Or.inl ⟨by rfl, ?_⟩) ?_ ?_
            rotate_left
            · intro w'
              go_simp
              with_reducible rfl
            rotate_left
            · simp only [Act.put, List.setIfInBounds_toArray, List.set_cons_zero, List.set_cons_succ, i64_w, i32_w]
              rfl
            refine pure_ (i := 26) (N := some 51) (v := ?_) (a' := ?_) (Go.Proofs.YthphgkhmeobadabX.bA 53 100663295) rfl rfl (any_of HT_.out (by kernel_rfl)) (fun _ _ _ h => h) (Or.inl ⟨by rfl, ?_⟩) ?_ ?_
            rotate_left
            · intro w'
              go_simp
              with_reducible rfl
            rotate_left
            · simp only [Act.put, List.setIfInBounds_toArray, List.set_cons_zero, List.set_cons_succ, i64_w, i32_w]
              rfl
            refine take_ (i := 25) (N := some 50) (v := ?_) (a' := ?_) (Go.Proofs.YthphgkhmeobadabX.bA 53 134217727) rfl rfl (take_ofW HT_.out HW_.out (by kernel_rfl)) (fun _ _ _ h => h) (Or.inl ⟨by rfl, ?_⟩) hHeld ?_ ?_
            rotate_left
            · rintro w' ⟨s0, s1, s2, s3, s4⟩
              go_simp
              with_reducible rfl
            rotate_left
            · simp only [Act.put, List.setIfInBounds_toArray, List.set_cons_zero, List.set_cons_succ, i64_w, i32_w]
              rfl
            refine take_ (i := 27) (N := some 52) (v := ?_) (a' := ?_) (Go.Proofs.YthphgkhmeobadabX.bA 53 268435455) rfl rfl (take_ofW HT_.out HW_.out (by kernel_rfl)) (fun _ _ _ h => h) (Or.inl ⟨by rfl, ?_⟩) hHeld ?_ ?_
            rotate_left
            · rintro w' ⟨s0, s1, s2, s3, s4⟩
              go_simp
              with_reducible rfl
            rotate_left
            · simp only [Act.put, List.setIfInBounds_toArray, List.set_cons_zero, List.set_cons_succ, i64_w, i32_w]
              rfl
            refine pure_ (i := 28) (N := some 53) (v := ?_) (a' := ?_) (Go.Proofs.YthphgkhmeobadabX.bA 53 536870911) rfl rfl (any_of HT_.out (by kernel_rfl)) (fun _ _ _ h => h) (Or.inl ⟨by rfl, ?_⟩) ?_ ?_
            rotate_left
            · intro w'
              go_simp
              with_reducible rfl
            rotate_left
            · simp only [Act.put, List.setIfInBounds_toArray, List.set_cons_zero, List.set_cons_succ, i64_w, i32_w]
              rfl
            refine pure_ (i := 29) (N := some 54) (v := ?_) (a' := ?_) (Go.Proofs.YthphgkhmeobadabX.bA 53 1073741823) rfl rfl (any_of HT_.out (by kernel_rfl)) (fun _ _ _ h => h) (Or.inl ⟨by rfl, ?_⟩) ?_ ?_
            rotate_left
            · intro w'
              go_simp
              with_reducible rfl
            rotate_left
            · simp only [Act.put, List.setIfInBounds_toArray, List.set_cons_zero, List.set_cons_succ, i64_w, i32_w]
              rfl
            refine pure_ (i := 30) (N := some 55) (v := ?_) (a' := ?_) (Go.Proofs.YthphgkhmeobadabX.bA 53 2147483647) rfl rfl (any_of HT_.out (by kernel_rfl)) (fun _ _ _ h => h) (Or.inl ⟨by rfl, ?_⟩) ?_ ?_
            rotate_left
            · intro w'
              go_simp
              with_reducible rfl
            rotate_left
            · simp only [Act.put, List.setIfInBounds_toArray, List.set_cons_zero, List.set_cons_succ, i64_w, i32_w]
              rfl
            refine pure_ (i := 32) (N := some 57) (v := ?_) (a' := ?_) (Go.Proofs.YthphgkhmeobadabX.bA 53 6442450943) rfl rfl (any_of HT_.out (by kernel_rfl)) (fun _ _ _ h => h) (Or.inl ⟨by rfl, ?_⟩) ?_ ?_
            rotate_left
            · intro w'
              go_simp
              with_reducible rfl
            rotate_left
            · simp only [Act.put, List.setIfInBounds_toArray, List.set_cons_zero, List.set_cons_succ, i64_w, i32_w]
              rfl
            refine pure_ (i := 35) (N := some 60) (v := ?_) (a' := ?_) (Go.Proofs.YthphgkhmeobadabX.bA 53 40802189311) rfl rfl (any_of HT_.out (by kernel_rfl)) (fun _ _ _ h => h) (Or.inl ⟨by rfl, ?_⟩) ?_ ?_
            rotate_left
            · intro w'
              go_simp
              with_reducible rfl
            rotate_left
            · simp only [Act.put, List.setIfInBounds_toArray, List.set_cons_zero, List.set_cons_succ, i64_w, i32_w]
              rfl
            refine take_ (i := 31) (N := some 56) (v := ?_) (a' := ?_) (Go.Proofs.YthphgkhmeobadabX.bA 53 42949672959) rfl rfl (take_ofW HT_.out HW_.out (by kernel_rfl)) (fun _ _ _ h => h) (Or.inl ⟨by rfl, ?_⟩) hHeld ?_ ?_
            rotate_left
            · rintro w' ⟨s0, s1, s2, s3, s4⟩
              go_simp
              with_reducible rfl
            rotate_left
            · simp only [Act.put, List.setIfInBounds_toArray, List.set_cons_zero, List.set_cons_succ, i64_w, i32_w]
              rfl
            refine take_ (i := 33) (N := some 58) (v := ?_) (a' := ?_) (Go.Proofs.YthphgkhmeobadabX.bA 53 51539607551) rfl rfl (take_ofW HT_.out HW_.out (by kernel_rfl)) (fun _ _ _ h => h) (Or.inl ⟨by rfl, ?_⟩) hHeld ?_ ?_
            rotate_left
            · rintro w' ⟨s0, s1, s2, s3, s4⟩
              go_simp
              with_reducible rfl
            rotate_left
            · simp only [Act.put, List.setIfInBounds_toArray, List.set_cons_zero, List.set_cons_succ, i64_w, i32_w]
              rfl
            refine take_ (i := 36) (N := some 61) (v := ?_) (a' := ?_) (Go.Proofs.YthphgkhmeobadabX.bA 53 120259084287) rfl rfl (take_ofW HT_.out HW_.out (by kernel_rfl)) (fun _ _ _ h => h) (Or.inl ⟨by rfl, ?_⟩) hHeld ?_ ?_
            rotate_left
            · rintro w' ⟨s0, s1, s2, s3, s4⟩
              go_simp
              with_reducible rfl
            rotate_left
            · simp only [Act.put, List.setIfInBounds_toArray, List.set_cons_zero, List.set_cons_succ, i64_w, i32_w]
              rfl
            refine one_ (i := 34) (N := some 59) (Go.Proofs.YthphgkhmeobadabX.bA 53 137438953471) rfl rfl (one_of HT_.out (by kernel_rfl)) (by decide) (fun K hK => ?_)
            refine goes_ Try.func63 (by kernel_rfl) rfl #[.agg #[.int .i64 a0_0, .slice (some ad) l0_1.length c0_1], .int .i64 ((rd_T85 l0_1 x).f1)] (by rfl) rfl rfl (by (try simp only [List.map_toArray, List.map_cons, List.map_nil]); first | done | rfl) ?_
            with_reducible refine (impl_Diagram_varAt.calls a0_0 _ _ l0_1 ((rd_T85 l0_1 x).f1) v1 _ ?side1 ?side2 HV1.out).mono ?_
            (case side1 => exact Kd.C_below HR.out HB.out)
            (case side2 => exact HC.out)
            rintro e wn ⟨rfl, hb⟩
            refine ⟨_, rfl, ?_⟩
            have n0_ := Aside0.mk ((hb.block _ (blk_lt BKF.out)).trans BKF.out)
            have n1_ := Aside0.mk ((hb.block _ (blk_lt BKD.out)).trans BKD.out)
            have n2_ := Aside0.mk (HM.out.below hb)
            have n3_ := Aside0.mk (below_step HB.out hb)
            clear BKF BKD HM HB
            have BKF := n0_
            have BKD := n1_
            have HM := n2_
            have HB := n3_
            clear n0_ n1_ n2_ n3_ hb
            refine hK.out _ _ ⟨(blk_cell BKD.out 0).trans rfl, (blk_cell BKD.out 1).trans rfl, (blk_cell BKF.out 0).trans rfl, (blk_cell BKF.out 1).trans rfl, (blk_cell BKF.out 2).trans rfl⟩ (fun hHeld => ?_)
            clear hK K
            refine norm_ (a' := ?_) ?_ ?_
            rotate_left
            · show Act.put _ (some 59) _ = _
              simp only [Act.put, List.setIfInBounds_toArray, List.set_cons_zero, List.set_cons_succ, i64_w, i32_w]
              rfl
            refine pure_ (i := 37) (N := some 62) (v := ?_) (a' := ?_) (Go.Proofs.YthphgkhmeobadabX.bA 53 274877906943) rfl rfl (any_of HT_.out (by kernel_rfl)) (fun _ _ _ h => h) (Or.inl ⟨by rfl, ?_⟩) ?_ ?_
            rotate_left
            · intro w'
              go_simp
              with_reducible rfl
            rotate_left
            · simp only [Act.put, List.setIfInBounds_toArray, List.set_cons_zero, List.set_cons_succ, i64_w, i32_w]
              rfl
            refine pure_ (i := 38) (N := some 63) (v := ?_) (a' := ?_) (Go.Proofs.YthphgkhmeobadabX.bA 53 549755813887) rfl rfl (any_of HT_.out (by kernel_rfl)) (fun _ _ _ h => h) (Or.inl ⟨by rfl, ?_⟩) ?_ ?_
            rotate_left
            · intro w'
              go_simp
              with_reducible rfl
            rotate_left
            · simp only [Act.put, List.setIfInBounds_toArray, List.set_cons_zero, List.set_cons_succ, i64_w, i32_w]
              rfl
            refine pure_ (i := 39) (N := some 64) (v := ?_) (a' := ?_) (Go.Proofs.YthphgkhmeobadabX.bA 53 1099511627775) rfl rfl (any_of HT_.out (by kernel_rfl)) (fun _ _ _ h => h) (Or.inl ⟨by rfl, ?_⟩) ?_ ?_
            rotate_left
            · intro w'
              go_simp
              with_reducible rfl
            rotate_left
            · simp only [Act.put, List.setIfInBounds_toArray, List.set_cons_zero, List.set_cons_succ, i64_w, i32_w]
              rfl
            refine pure_ (i := 41) (N := some 66) (v := ?_) (a' := ?_) (Go.Proofs.YthphgkhmeobadabX.bA 53 3298534883327) rfl rfl (any_of HT_.out (by kernel_rfl)) (fun _ _ _ h => h) (Or.inl ⟨by rfl, ?_⟩) ?_ ?_
            rotate_left
            · intro w'
              go_simp
              with_reducible rfl
            rotate_left
            · simp only [Act.put, List.setIfInBounds_toArray, List.set_cons_zero, List.set_cons_succ, i64_w, i32_w]
              rfl
            refine pure_ (i := 44) (N := some 69) (v := ?_) (a' := ?_) (Go.Proofs.YthphgkhmeobadabX.bA 53 20890720927743) rfl rfl (any_of HT_.out (by kernel_rfl)) (fun _ _ _ h => h) (Or.inl ⟨by rfl, ?_⟩) ?_ ?_
            rotate_left
            · intro w'
              go_simp
              with_reducible rfl
            rotate_left
            · simp only [Act.put, List.setIfInBounds_toArray, List.set_cons_zero, List.set_cons_succ, i64_w, i32_w]
              rfl
            refine take_ (i := 40) (N := some 65) (v := ?_) (a' := ?_) (Go.Proofs.YthphgkhmeobadabX.bA 53 21990232555519) rfl rfl (take_ofW HT_.out HW_.out (by kernel_rfl)) (fun _ _ _ h => h) (Or.inl ⟨by rfl, ?_⟩) hHeld ?_ ?_
            rotate_left
            · rintro w' ⟨s0, s1, s2, s3, s4⟩
              go_simp
              with_reducible rfl
            rotate_left
            · simp only [Act.put, List.setIfInBounds_toArray, List.set_cons_zero, List.set_cons_succ, i64_w, i32_w]
              rfl
            refine take_ (i := 42) (N := some 67) (v := ?_) (a' := ?_) (Go.Proofs.YthphgkhmeobadabX.bA 53 26388279066623) rfl rfl (take_ofW HT_.out HW_.out (by kernel_rfl)) (fun _ _ _ h => h) (Or.inl ⟨by rfl, ?_⟩) hHeld ?_ ?_
            rotate_left
            · rintro w' ⟨s0, s1, s2, s3, s4⟩
              go_simp
              with_reducible rfl
            rotate_left
            · simp only [Act.put, List.setIfInBounds_toArray, List.set_cons_zero, List.set_cons_succ, i64_w, i32_w]
              rfl
            refine take_ (i := 45) (N := some 70) (v := ?_) (a' := ?_) (Go.Proofs.YthphgkhmeobadabX.bA 53 61572651155455) rfl rfl (take_ofW HT_.out HW_.out (by kernel_rfl)) (fun _ _ _ h => h) (Or.inl ⟨by rfl, ?_⟩) hHeld ?_ ?_
            rotate_left
            · rintro w' ⟨s0, s1, s2, s3, s4⟩
              go_simp
              with_reducible rfl
            rotate_left
            · simp only [Act.put, List.setIfInBounds_toArray, List.set_cons_zero, List.set_cons_succ, i64_w, i32_w]
              rfl
            refine one_ (i := 43) (N := some 68) (Go.Proofs.YthphgkhmeobadabX.bA 53 70368744177663) rfl rfl (one_of HT_.out (by kernel_rfl)) (by decide) (fun K hK => ?_)
            refine goes_ Try.func63 (by kernel_rfl) rfl #[.agg #[.int .i64 a0_0, .slice (some ad) l0_1.length c0_1], .int .i64 ((rd_T85 l0_1 x).f2)] (by rfl) rfl rfl (by (try simp only [List.map_toArray, List.map_cons, List.map_nil]); first | done | rfl) ?_
            with_reducible refine (impl_Diagram_varAt.calls a0_0 _ _ l0_1 ((rd_T85 l0_1 x).f2) v2 _ ?side1 ?side2 HV2.out).mono ?_
            (case side1 => exact Kd.C_below HR.out HB.out)
            (case side2 => exact HC.out)
            rintro e wn ⟨rfl, hb⟩
            refine ⟨_, rfl, ?_⟩
            have n0_ := Aside0.mk ((hb.block _ (blk_lt BKF.out)).trans BKF.out)
            have n1_ := Aside0.mk ((hb.block _ (blk_lt BKD.out)).trans BKD.out)
            have n2_ := Aside0.mk (HM.out.below hb)
            have n3_ := Aside0.mk (below_step HB.out hb)
            clear BKF BKD HM HB
            have BKF := n0_
            have BKD := n1_
            have HM := n2_
            have HB := n3_
            clear n0_ n1_ n2_ n3_ hb
            refine hK.out _ _ ⟨(blk_cell BKD.out 0).trans rfl, (blk_cell BKD.out 1).trans rfl, (blk_cell BKF.out 0).trans rfl, (blk_cell BKF.out 1).trans rfl, (blk_cell BKF.out 2).trans rfl⟩ (fun hHeld => ?_)
            clear hK K
            refine norm_ (a' := ?_) ?_ ?_
            rotate_left
            · show Act.put _ (some 68) _ = _
              simp only [Act.put, List.setIfInBounds_toArray, List.set_cons_zero, List.set_cons_succ, i64_w, i32_w]
              rfl
            refine pure_ (i := 46) (N := some 71) (v := ?_) (a' := ?_) (Go.Proofs.YthphgkhmeobadabX.bA 53 140737488355327) rfl rfl (any_of HT_.out (by kernel_rfl)) (fun _ _ _ h => h) (Or.inl ⟨by rfl, ?_⟩) ?_ ?_
            rotate_left
            · intro w'
              go_simp
              with_reducible rfl
            rotate_left
            · simp only [Act.put, List.setIfInBounds_toArray, List.set_cons_zero, List.set_cons_succ, i64_w, i32_w]
              rfl
            refine pure_ (i := 47) (N := some 72) (v := ?_) (a' := ?_) (Go.Proofs.YthphgkhmeobadabX.bA 53 281474976710655) rfl rfl (any_of HT_.out (by kernel_rfl)) (fun _ _ _ h => h) (Or.inl ⟨by rfl, ?_⟩) ?_ ?_
            rotate_left
            · intro w'
              go_simp
              with_reducible rfl
            rotate_left
            · simp only [Act.put, List.setIfInBounds_toArray, List.set_cons_zero, List.set_cons_succ, i64_w, i32_w]
              rfl
            refine pure_ (i := 48) (N := some 73) (v := ?_) (a' := ?_) (Go.Proofs.YthphgkhmeobadabX.bA 53 562949953421311) rfl rfl (any_of HT_.out (by kernel_rfl)) (fun _ _ _ h => h) (Or.inl ⟨by rfl, ?_⟩) ?_ ?_
            rotate_left
            · intro w'
              go_simp
              with_reducible rfl
            rotate_left
            · simp only [Act.put, List.setIfInBounds_toArray, List.set_cons_zero, List.set_cons_succ, i64_w, i32_w]
              rfl
            refine pure_ (i := 49) (N := some 74) (v := undef) (a' := ?_) (Go.Proofs.YthphgkhmeobadabX.bA 53 1125899906842623) rfl rfl (any_of HT_.out (by kernel_rfl)) (fun _ _ _ h => h) (Or.inr ⟨by rfl, rfl⟩) ?_ ?_
            rotate_left
            · simp only [Act.put, List.setIfInBounds_toArray, List.set_cons_zero, List.set_cons_succ, i64_w, i32_w]
              rfl
            refine pure_ (i := 50) (N := some 75) (v := undef) (a' := ?_) (Go.Proofs.YthphgkhmeobadabX.bA 53 2251799813685247) rfl rfl (any_of HT_.out (by kernel_rfl)) (fun _ _ _ h => h) (Or.inr ⟨by rfl, rfl⟩) ?_ ?_
            rotate_left
            · simp only [Act.put, List.setIfInBounds_toArray, List.set_cons_zero, List.set_cons_succ, i64_w, i32_w]
              rfl
            refine pure_ (i := 51) (N := some 76) (v := undef) (a' := ?_) (Go.Proofs.YthphgkhmeobadabX.bA 53 4503599627370495) rfl rfl (any_of HT_.out (by kernel_rfl)) (fun _ _ _ h => h) (Or.inr ⟨by rfl, rfl⟩) ?_ ?_
            rotate_left
            · simp only [Act.put, List.setIfInBounds_toArray, List.set_cons_zero, List.set_cons_succ, i64_w, i32_w]
              rfl
            refine pure_ (i := 52) (N := some 77) (v := ?_) (a' := ?_) (Go.Proofs.YthphgkhmeobadabX.bA 53 9007199254740991) rfl rfl (any_of HT_.out (by kernel_rfl)) (fun _ _ _ h => h) (Or.inl ⟨by rfl, ?_⟩) ?_ ?_
            rotate_left
            · intro w'
              go_simp
              with_reducible rfl
            rotate_left
            · simp only [Act.put, List.setIfInBounds_toArray, List.set_cons_zero, List.set_cons_succ, i64_w, i32_w]
              rfl
            refine done_ (done_of HT_.out (by kernel_rfl)) ?_
            try go_wp2
            go_ret
            exact ⟨rfl, HB.out⟩
          · skip
            have HT1 := Aside0.mk ht1
            have HT2 := Aside0.mk ht2
            have HT3 := Aside0.mk ht3
            have HV1 := Aside0.mk hv1
            have HV2 := Aside0.mk hv2
            clear ht1 ht2 ht3 hv1 hv2
            have h4b : (((rd_T85 l0_1 x).f1) == ((rd_T85 l0_1 x).f2)) = false := beq_eq_false_iff_ne.mpr h4
            clear h4
            have h5b : decide (v1 ≤ ((rd_T85 l0_1 x).f0)) = false := decide_eq_false h5
            clear h5
            have h6b : decide (v2 ≤ ((rd_T85 l0_1 x).f0)) = false := decide_eq_false h6
            clear h6
            have HGD := Aside0.mk (show impl_DiagramValid.key.good (rd_T85 l0_1 x) from ⟨impl_DiagramValid.in_wf HT1.out (by unfold wrap64; omega), impl_DiagramValid.in_wf HT2.out (by unfold wrap64; omega), impl_DiagramValid.in_wf HT3.out (by unfold wrap64; omega)⟩)
            cases hs : impl_DiagramValid.F l0_1 x.toNat (rd_T85 l0_1 x) with
            | some b2 =>
              have hb2 : b2 = true := by unfold impl_DiagramValid.F at hs; split at hs; (exact (Option.some.inj hs).symm); cases hs
              subst hb2
              have HSV := Aside0.mk (show (impl_DiagramValid.F l0_1 x.toNat (rd_T85 l0_1 x)).getD false = true by rw [hs]; rfl)
              rw [hs] at hbb
              obtain rfl : b = false := hbb
              clear hs
              have hr := HGO.out
              rw [if_neg (by decide)] at hr
              obtain rfl := Option.some.inj hr
              clear hr
              refine start_ (n := 53) (S := fun w' => w'.cell? ⟨gd, 0, none⟩ = some (.int .i64 a0_0) ∧ w'.cell? ⟨gd, 1, none⟩ = some (.slice (some ad) l0_1.length c0_1) ∧ w'.cell? ⟨gf, 0, none⟩ = some (.int .i64 ((rd_T85 l0_1 x).f0)) ∧ w'.cell? ⟨gf, 1, none⟩ = some (.int .i64 ((rd_T85 l0_1 x).f1)) ∧ w'.cell? ⟨gf, 2, none⟩ = some (.int .i64 ((rd_T85 l0_1 x).f2)) ∧ (Instr.lookup 89 (.map (some bm)) (.agg #[.int .i64 ((rd_T85 l0_1 x).f0), .int .i64 ((rd_T85 l0_1 x).f1), .int .i64 ((rd_T85 l0_1 x).f2)]) false).run Try.prog w' = .ok (.bool true) w') (ds := []) #[false, false, false, false, false, false, false, false, false, false, false, false, false, false, false, false, false, false, false, false, false, false, false, false, false, false, false, false, false, false, false, false, false, false, false, false, false, false, false, false, false, false, false, false, false, false, false, false, false, false, false, false, false] (by kernel_rfl) rfl rfl ⟨(blk_cell BKD.out 0).trans rfl, (blk_cell BKD.out 1).trans rfl, (blk_cell BKF.out 0).trans rfl, (blk_cell BKF.out 1).trans rfl, (blk_cell BKF.out 2).trans rfl, ((HM.out.look Try.underlying89 HGD.out).trans (congrArg (fun b_ => Result.ok (Value.bool b_) _) HSV.out))⟩ (fun hHeld => ?_)
              refine with_tabW impl_DiagramValid.tab7 impl_DiagramValid.bits7 (fun HT_ HW_ => ?_)
              generalize wz.drew = wy at BKF BKD HM HB hHeld ⊢
              refine pure_ (i := 0) (N := some 25) (v := ?_) (a' := ?_) (Go.Proofs.YthphgkhmeobadabX.bA 53 1) rfl rfl (any_of HT_.out (by kernel_rfl)) (fun _ _ _ h => h) (Or.inl ⟨by rfl, ?_⟩) ?_ ?_
              rotate_left
              · intro w'
                go_simp
                with_reducible rfl
              rotate_left
              · simp only [Act.put, List.setIfInBounds_toArray, List.set_cons_zero, List.set_cons_succ, i64_w, i32_w]
                rfl
              refine pure_ (i := 2) (N := some 27) (v := ?_) (a' := ?_) (Go.Proofs.YthphgkhmeobadabX.bA 53 5) rfl rfl (any_of HT_.out (by kernel_rfl)) (fun _ _ _ h => h) (Or.inl ⟨by rfl, ?_⟩) ?_ ?_
              rotate_left
              · intro w'
                go_simp
                with_reducible rfl
              rotate_left
              · simp only [Act.put, List.setIfInBounds_toArray, List.set_cons_zero, List.set_cons_succ, i64_w, i32_w]
                rfl
              refine take_ (i := 1) (N := some 26) (v := ?_) (a' := ?_) (Go.Proofs.YthphgkhmeobadabX.bA 53 7) rfl rfl (take_ofW HT_.out HW_.out (by kernel_rfl)) (fun _ _ _ h => h) (Or.inl ⟨by rfl, ?_⟩) hHeld ?_ ?_
              rotate_left
              · rintro w' ⟨s0, s1, s2, s3, s4, s5⟩
                go_simp
                with_reducible rfl
              rotate_left
              · simp only [Act.put, List.setIfInBounds_toArray, List.set_cons_zero, List.set_cons_succ, i64_w, i32_w]
                rfl
              refine take_ (i := 3) (N := some 28) (v := ?_) (a' := ?_) (Go.Proofs.YthphgkhmeobadabX.bA 53 15) rfl rfl (take_ofW HT_.out HW_.out (by kernel_rfl)) (fun _ _ _ h => h) (Or.inl ⟨by rfl, ?_⟩) hHeld ?_ ?_
              rotate_left
              · rintro w' ⟨s0, s1, s2, s3, s4, s5⟩
                go_simp
                with_reducible rfl
              rotate_left
              · simp only [Act.put, List.setIfInBounds_toArray, List.set_cons_zero, List.set_cons_succ, i64_w, i32_w]
                rfl
              refine pure_ (i := 4) (N := some 29) (v := ?_) (a' := ?_) (Go.Proofs.YthphgkhmeobadabX.bA 53 31) rfl rfl (any_of HT_.out (by kernel_rfl)) (fun _ _ _ h => h) (Or.inl ⟨by rfl, ?_⟩) ?_ ?_
              rotate_left
              · intro w'
                go_simp
                with_reducible rfl
              rotate_left
              · simp only [Act.put, List.setIfInBounds_toArray, List.set_cons_zero, List.set_cons_succ, i64_w, i32_w]
                rfl
              refine one_ (i := 5) (N := some 30) (Go.Proofs.YthphgkhmeobadabX.bA 53 63) rfl rfl (one_of HT_.out (by kernel_rfl)) (by decide) (fun K hK => ?_)
              refine goes_ Try.func47 (by kernel_rfl) rfl #[.int .i64 ((rd_T85 l0_1 x).f0), .int .i64 0, .int .i64 (wrap64 (a0_0 - 1))] (by rfl) rfl rfl (by (try simp only [List.map_toArray, List.map_cons, List.map_nil]); first | done | rfl) ?_
              with_reducible refine (impl_in.calls ((rd_T85 l0_1 x).f0) 0 (wrap64 (a0_0 - 1)) true _ HT1.out).mono ?_
              rintro e wn ⟨rfl, hd⟩
              have hb := hd.below
              clear hd
              refine ⟨_, rfl, ?_⟩
              have n0_ := Aside0.mk ((hb.block _ (blk_lt BKF.out)).trans BKF.out)
              have n1_ := Aside0.mk ((hb.block _ (blk_lt BKD.out)).trans BKD.out)
              have n2_ := Aside0.mk (HM.out.below hb)
              have n3_ := Aside0.mk (below_step HB.out hb)
              clear BKF BKD HM HB
              have BKF := n0_
              have BKD := n1_
              have HM := n2_
              have HB := n3_
              clear n0_ n1_ n2_ n3_ hb
              refine hK.out _ _ ⟨(blk_cell BKD.out 0).trans rfl, (blk_cell BKD.out 1).trans rfl, (blk_cell BKF.out 0).trans rfl, (blk_cell BKF.out 1).trans rfl, (blk_cell BKF.out 2).trans rfl, ((HM.out.look Try.underlying89 HGD.out).trans (congrArg (fun b_ => Result.ok (Value.bool b_) _) HSV.out))⟩ (fun hHeld => ?_)
              clear hK K
              refine norm_ (a' := ?_) ?_ ?_
              rotate_left
              · show Act.put _ (some 30) _ = _
                simp only [Act.put, List.setIfInBounds_toArray, List.set_cons_zero, List.set_cons_succ, i64_w, i32_w]
                rfl
              refine pure_ (i := 6) (N := some 31) (v := ?_) (a' := ?_) (Go.Proofs.YthphgkhmeobadabX.bA 53 127) rfl rfl (any_of HT_.out (by kernel_rfl)) (fun _ _ _ h => h) (Or.inl ⟨by rfl, ?_⟩) ?_ ?_
              rotate_left
              · intro w'
                go_simp
                with_reducible rfl
              rotate_left
              · simp only [Act.put, List.setIfInBounds_toArray, List.set_cons_zero, List.set_cons_succ, i64_w, i32_w]
                rfl
              refine pure_ (i := 7) (N := some 32) (v := ?_) (a' := ?_) (Go.Proofs.YthphgkhmeobadabX.bA 53 255) rfl rfl (any_of HT_.out (by kernel_rfl)) (fun _ _ _ h => h) (Or.inl ⟨by rfl, ?_⟩) ?_ ?_
              rotate_left
              · intro w'
                go_simp
                with_reducible rfl
              rotate_left
              · simp only [Act.put, List.setIfInBounds_toArray, List.set_cons_zero, List.set_cons_succ, i64_w, i32_w]
                rfl
              refine pure_ (i := 8) (N := some 33) (v := ?_) (a' := ?_) (Go.Proofs.YthphgkhmeobadabX.bA 53 511) rfl rfl (any_of HT_.out (by kernel_rfl)) (fun _ _ _ h => h) (Or.inl ⟨by rfl, ?_⟩) ?_ ?_
              rotate_left
              · intro w'
                go_simp
                with_reducible rfl
              rotate_left
              · simp only [Act.put, List.setIfInBounds_toArray, List.set_cons_zero, List.set_cons_succ, i64_w, i32_w]
                rfl
              refine pure_ (i := 10) (N := some 35) (v := ?_) (a' := ?_) (Go.Proofs.YthphgkhmeobadabX.bA 53 1535) rfl rfl (any_of HT_.out (by kernel_rfl)) (fun _ _ _ h => h) (Or.inl ⟨by rfl, ?_⟩) ?_ ?_
              rotate_left
              · intro w'
                go_simp
                with_reducible rfl
              rotate_left
              · simp only [Act.put, List.setIfInBounds_toArray, List.set_cons_zero, List.set_cons_succ, i64_w, i32_w]
                rfl
              refine pure_ (i := 11) (N := some 36) (v := ?_) (a' := ?_) (Go.Proofs.YthphgkhmeobadabX.bA 53 3583) rfl rfl (any_of HT_.out (by kernel_rfl)) (fun _ _ _ h => h) (Or.inl ⟨by rfl, ?_⟩) ?_ ?_
              rotate_left
              · intro w'
                go_simp
                with_reducible rfl
              rotate_left
              · simp only [Act.put, List.setIfInBounds_toArray, List.set_cons_zero, List.set_cons_succ, i64_w, i32_w]
                rfl
              refine take_ (i := 9) (N := some 34) (v := ?_) (a' := ?_) (Go.Proofs.YthphgkhmeobadabX.bA 53 4095) rfl rfl (take_ofW HT_.out HW_.out (by kernel_rfl)) (fun _ _ _ h => h) (Or.inl ⟨by rfl, ?_⟩) hHeld ?_ ?_
              rotate_left
              · rintro w' ⟨s0, s1, s2, s3, s4, s5⟩
                go_simp
                with_reducible rfl
              rotate_left
              · simp only [Act.put, List.setIfInBounds_toArray, List.set_cons_zero, List.set_cons_succ, i64_w, i32_w]
                rfl
              refine one_ (i := 12) (N := some 37) (Go.Proofs.YthphgkhmeobadabX.bA 53 8191) rfl rfl (one_of HT_.out (by kernel_rfl)) (by decide) (fun K hK => ?_)
              refine goes_ Try.func47 (by kernel_rfl) rfl #[.int .i64 ((rd_T85 l0_1 x).f1), .int .i64 0, .int .i64 (wrap64 (x + 1))] (by rfl) rfl rfl (by (try simp only [List.map_toArray, List.map_cons, List.map_nil]); first | done | rfl) ?_
              with_reducible refine (impl_in.calls ((rd_T85 l0_1 x).f1) 0 (wrap64 (x + 1)) true _ HT2.out).mono ?_
              rintro e wn ⟨rfl, hd⟩
              have hb := hd.below
              clear hd
              refine ⟨_, rfl, ?_⟩
              have n0_ := Aside0.mk ((hb.block _ (blk_lt BKF.out)).trans BKF.out)
              have n1_ := Aside0.mk ((hb.block _ (blk_lt BKD.out)).trans BKD.out)
              have n2_ := Aside0.mk (HM.out.below hb)
              have n3_ := Aside0.mk (below_step HB.out hb)
              clear BKF BKD HM HB
              have BKF := n0_
              have BKD := n1_
              have HM := n2_
              have HB := n3_
              clear n0_ n1_ n2_ n3_ hb
              refine hK.out _ _ ⟨(blk_cell BKD.out 0).trans rfl, (blk_cell BKD.out 1).trans rfl, (blk_cell BKF.out 0).trans rfl, (blk_cell BKF.out 1).trans rfl, (blk_cell BKF.out 2).trans rfl, ((HM.out.look Try.underlying89 HGD.out).trans (congrArg (fun b_ => Result.ok (Value.bool b_) _) HSV.out))⟩ (fun hHeld => ?_)
              clear hK K
              refine norm_ (a' := ?_) ?_ ?_
              rotate_left
              · show Act.put _ (some 37) _ = _
                simp only [Act.put, List.setIfInBounds_toArray, List.set_cons_zero, List.set_cons_succ, i64_w, i32_w]
                rfl
              refine pure_ (i := 13) (N := some 38) (v := ?_) (a' := ?_) (Go.Proofs.YthphgkhmeobadabX.bA 53 16383) rfl rfl (any_of HT_.out (by kernel_rfl)) (fun _ _ _ h => h) (Or.inl ⟨by rfl, ?_⟩) ?_ ?_
              rotate_left
              · intro w'
                go_simp
                with_reducible rfl
              rotate_left
              · simp only [Act.put, List.setIfInBounds_toArray, List.set_cons_zero, List.set_cons_succ, i64_w, i32_w]
                rfl
              refine pure_ (i := 14) (N := some 39) (v := ?_) (a' := ?_) (Go.Proofs.YthphgkhmeobadabX.bA 53 32767) rfl rfl (any_of HT_.out (by kernel_rfl)) (fun _ _ _ h => h) (Or.inl ⟨by rfl, ?_⟩) ?_ ?_
              rotate_left
              · intro w'
                go_simp
                with_reducible rfl
              rotate_left
              · simp only [Act.put, List.setIfInBounds_toArray, List.set_cons_zero, List.set_cons_succ, i64_w, i32_w]
                rfl
              refine pure_ (i := 15) (N := some 40) (v := ?_) (a' := ?_) (Go.Proofs.YthphgkhmeobadabX.bA 53 65535) rfl rfl (any_of HT_.out (by kernel_rfl)) (fun _ _ _ h => h) (Or.inl ⟨by rfl, ?_⟩) ?_ ?_
              rotate_left
              · intro w'
                go_simp
                with_reducible rfl
              rotate_left
              · simp only [Act.put, List.setIfInBounds_toArray, List.set_cons_zero, List.set_cons_succ, i64_w, i32_w]
                rfl
              refine pure_ (i := 16) (N := some 41) (v := ?_) (a' := ?_) (Go.Proofs.YthphgkhmeobadabX.bA 53 131071) rfl rfl (any_of HT_.out (by kernel_rfl)) (fun _ _ _ h => h) (Or.inl ⟨by rfl, ?_⟩) ?_ ?_
              rotate_left
              · intro w'
                go_simp
                with_reducible rfl
              rotate_left
              · simp only [Act.put, List.setIfInBounds_toArray, List.set_cons_zero, List.set_cons_succ, i64_w, i32_w]
                rfl
              refine pure_ (i := 18) (N := some 43) (v := ?_) (a' := ?_) (Go.Proofs.YthphgkhmeobadabX.bA 53 393215) rfl rfl (any_of HT_.out (by kernel_rfl)) (fun _ _ _ h => h) (Or.inl ⟨by rfl, ?_⟩) ?_ ?_
              rotate_left
              · intro w'
                go_simp
                with_reducible rfl
              rotate_left
              · simp only [Act.put, List.setIfInBounds_toArray, List.set_cons_zero, List.set_cons_succ, i64_w, i32_w]
                rfl
              refine pure_ (i := 19) (N := some 44) (v := ?_) (a' := ?_) (Go.Proofs.YthphgkhmeobadabX.bA 53 917503) rfl rfl (any_of HT_.out (by kernel_rfl)) (fun _ _ _ h => h) (Or.inl ⟨by rfl, ?_⟩) ?_ ?_
              rotate_left
              · intro w'
                go_simp
                with_reducible rfl
              rotate_left
              · simp only [Act.put, List.setIfInBounds_toArray, List.set_cons_zero, List.set_cons_succ, i64_w, i32_w]
                rfl
              refine take_ (i := 17) (N := some 42) (v := ?_) (a' := ?_) (Go.Proofs.YthphgkhmeobadabX.bA 53 1048575) rfl rfl (take_ofW HT_.out HW_.out (by kernel_rfl)) (fun _ _ _ h => h) (Or.inl ⟨by rfl, ?_⟩) hHeld ?_ ?_
              rotate_left
              · rintro w' ⟨s0, s1, s2, s3, s4, s5⟩
                go_simp
                with_reducible rfl
              rotate_left
              · simp only [Act.put, List.setIfInBounds_toArray, List.set_cons_zero, List.set_cons_succ, i64_w, i32_w]
                rfl
              refine one_ (i := 20) (N := some 45) (Go.Proofs.YthphgkhmeobadabX.bA 53 2097151) rfl rfl (one_of HT_.out (by kernel_rfl)) (by decide) (fun K hK => ?_)
              refine goes_ Try.func47 (by kernel_rfl) rfl #[.int .i64 ((rd_T85 l0_1 x).f2), .int .i64 0, .int .i64 (wrap64 (x + 1))] (by rfl) rfl rfl (by (try simp only [List.map_toArray, List.map_cons, List.map_nil]); first | done | rfl) ?_
              with_reducible refine (impl_in.calls ((rd_T85 l0_1 x).f2) 0 (wrap64 (x + 1)) true _ HT3.out).mono ?_
              rintro e wn ⟨rfl, hd⟩
              have hb := hd.below
              clear hd
              refine ⟨_, rfl, ?_⟩
              have n0_ := Aside0.mk ((hb.block _ (blk_lt BKF.out)).trans BKF.out)
              have n1_ := Aside0.mk ((hb.block _ (blk_lt BKD.out)).trans BKD.out)
              have n2_ := Aside0.mk (HM.out.below hb)
              have n3_ := Aside0.mk (below_step HB.out hb)
              clear BKF BKD HM HB
              have BKF := n0_
              have BKD := n1_
              have HM := n2_
              have HB := n3_
              clear n0_ n1_ n2_ n3_ hb
              refine hK.out _ _ ⟨(blk_cell BKD.out 0).trans rfl, (blk_cell BKD.out 1).trans rfl, (blk_cell BKF.out 0).trans rfl, (blk_cell BKF.out 1).trans rfl, (blk_cell BKF.out 2).trans rfl, ((HM.out.look Try.underlying89 HGD.out).trans (congrArg (fun b_ => Result.ok (Value.bool b_) _) HSV.out))⟩ (fun hHeld => ?_)
              clear hK K
              refine norm_ (a' := ?_) ?_ ?_
              rotate_left
              · show Act.put _ (some 45) _ = _
                simp only [Act.put, List.setIfInBounds_toArray, List.set_cons_zero, List.set_cons_succ, i64_w, i32_w]
                rfl
              refine pure_ (i := 21) (N := some 46) (v := ?_) (a' := ?_) (Go.Proofs.YthphgkhmeobadabX.bA 53 4194303) rfl rfl (any_of HT_.out (by kernel_rfl)) (fun _ _ _ h => h) (Or.inl ⟨by rfl, ?_⟩) ?_ ?_
              rotate_left
              · intro w'
                go_simp
                with_reducible rfl
              rotate_left
              · simp only [Act.put, List.setIfInBounds_toArray, List.set_cons_zero, List.set_cons_succ, i64_w, i32_w]
                rfl
              refine pure_ (i := 22) (N := some 47) (v := ?_) (a' := ?_) (Go.Proofs.YthphgkhmeobadabX.bA 53 8388607) rfl rfl (any_of HT_.out (by kernel_rfl)) (fun _ _ _ h => h) (Or.inl ⟨by rfl, ?_⟩) ?_ ?_
              rotate_left
              · intro w'
                go_simp
                with_reducible rfl
              rotate_left
              · simp only [Act.put, List.setIfInBounds_toArray, List.set_cons_zero, List.set_cons_succ, i64_w, i32_w]
                rfl
              refine pure_ (i := 23) (N := some 48) (v := ?_) (a' := ?_) (Go.Proofs.YthphgkhmeobadabX.bA 53 16777215) rfl rfl (any_of HT_.out (by kernel_rfl)) (fun _ _ _ h => h) (Or.inl ⟨by rfl, ?_⟩) ?_ ?_
              rotate_left
              · intro w'
                go_simp
                with_reducible rfl
              rotate_left
              · simp only [Act.put, List.setIfInBounds_toArray, List.set_cons_zero, List.set_cons_succ, i64_w, i32_w]
                rfl
              refine pure_ (i := 24) (N := some 49) (v := ?_) (a' := ?_) (Go.Proofs.YthphgkhmeobadabX.bA 53 33554431) rfl rfl (any_of HT_.out (by kernel_rfl)) (fun _ _ _ h => h) (Or.inl ⟨by rfl, ?_⟩) ?_ ?_
              rotate_left
              · intro w'
                go_simp
                with_reducible rfl
              rotate_left
              · simp only [Act.put, List.setIfInBounds_toArray, List.set_cons_zero, List.set_cons_succ, i64_w, i32_w]
                rfl
              refine pure_ (i := 26) (N := some 51) (v := ?_) (a' := ?_) (Go.Proofs.YthphgkhmeobadabX.bA 53 100663295) rfl rfl (any_of HT_.out (by kernel_rfl)) (fun _ _ _ h => h) (Or.inl ⟨by rfl, ?_⟩) ?_ ?_
              rotate_left
              · intro w'
                go_simp
                with_reducible rfl
              rotate_left
              · simp only [Act.put, List.setIfInBounds_toArray, List.set_cons_zero, List.set_cons_succ, i64_w, i32_w]
                rfl
              refine take_ (i := 25) (N := some 50) (v := ?_) (a' := ?_) (Go.Proofs.YthphgkhmeobadabX.bA 53 134217727) rfl rfl (take_ofW HT_.out HW_.out (by kernel_rfl)) (fun _ _ _ h => h) (Or.inl ⟨by rfl, ?_⟩) hHeld ?_ ?_
              rotate_left
              · rintro w' ⟨s0, s1, s2, s3, s4, s5⟩
                go_simp
                with_reducible rfl
              rotate_left
              · simp only [Act.put, List.setIfInBounds_toArray, List.set_cons_zero, List.set_cons_succ, i64_w, i32_w]
                rfl
              refine take_ (i := 27) (N := some 52) (v := ?_) (a' := ?_) (Go.Proofs.YthphgkhmeobadabX.bA 53 268435455) rfl rfl (take_ofW HT_.out HW_.out (by kernel_rfl)) (fun _ _ _ h => h) (Or.inl ⟨by rfl, ?_⟩) hHeld ?_ ?_
              rotate_left
              · rintro w' ⟨s0, s1, s2, s3, s4, s5⟩
                go_simp
                with_reducible rfl
              rotate_left
              · simp only [Act.put, List.setIfInBounds_toArray, List.set_cons_zero, List.set_cons_succ, i64_w, i32_w]
                rfl
              refine pure_ (i := 28) (N := some 53) (v := ?_) (a' := ?_) (Go.Proofs.YthphgkhmeobadabX.bA 53 536870911) rfl rfl (any_of HT_.out (by kernel_rfl)) (fun _ _ _ h => h) (Or.inl ⟨by rfl, ?_⟩) ?_ ?_
              rotate_left
              · intro w'
                go_simp
                with_reducible rfl
              rotate_left
              · simp only [Act.put, List.setIfInBounds_toArray, List.set_cons_zero, List.set_cons_succ, i64_w, i32_w]
                rfl
              refine pure_ (i := 29) (N := some 54) (v := ?_) (a' := ?_) (Go.Proofs.YthphgkhmeobadabX.bA 53 1073741823) rfl rfl (any_of HT_.out (by kernel_rfl)) (fun _ _ _ h => h) (Or.inl ⟨by rfl, ?_⟩) ?_ ?_
              rotate_left
              · intro w'
                go_simp
                with_reducible rfl
              rotate_left
              · simp only [Act.put, List.setIfInBounds_toArray, List.set_cons_zero, List.set_cons_succ, i64_w, i32_w]
                rfl
              refine pure_ (i := 30) (N := some 55) (v := ?_) (a' := ?_) (Go.Proofs.YthphgkhmeobadabX.bA 53 2147483647) rfl rfl (any_of HT_.out (by kernel_rfl)) (fun _ _ _ h => h) (Or.inl ⟨by rfl, ?_⟩) ?_ ?_
              rotate_left
              · intro w'
                go_simp
                with_reducible rfl
              rotate_left
              · simp only [Act.put, List.setIfInBounds_toArray, List.set_cons_zero, List.set_cons_succ, i64_w, i32_w]
                rfl
              refine pure_ (i := 32) (N := some 57) (v := ?_) (a' := ?_) (Go.Proofs.YthphgkhmeobadabX.bA 53 6442450943) rfl rfl (any_of HT_.out (by kernel_rfl)) (fun _ _ _ h => h) (Or.inl ⟨by rfl, ?_⟩) ?_ ?_
              rotate_left
              · intro w'
                go_simp
                with_reducible rfl
              rotate_left
              · simp only [Act.put, List.setIfInBounds_toArray, List.set_cons_zero, List.set_cons_succ, i64_w, i32_w]
                rfl
              refine pure_ (i := 35) (N := some 60) (v := ?_) (a' := ?_) (Go.Proofs.YthphgkhmeobadabX.bA 53 40802189311) rfl rfl (any_of HT_.out (by kernel_rfl)) (fun _ _ _ h => h) (Or.inl ⟨by rfl, ?_⟩) ?_ ?_
              rotate_left
              · intro w'
                go_simp
                with_reducible rfl
              rotate_left
              · simp only [Act.put, List.setIfInBounds_toArray, List.set_cons_zero, List.set_cons_succ, i64_w, i32_w]
                rfl
              refine take_ (i := 31) (N := some 56) (v := ?_) (a' := ?_) (Go.Proofs.YthphgkhmeobadabX.bA 53 42949672959) rfl rfl (take_ofW HT_.out HW_.out (by kernel_rfl)) (fun _ _ _ h => h) (Or.inl ⟨by rfl, ?_⟩) hHeld ?_ ?_
              rotate_left
              · rintro w' ⟨s0, s1, s2, s3, s4, s5⟩
                go_simp
                with_reducible rfl
              rotate_left
              · simp only [Act.put, List.setIfInBounds_toArray, List.set_cons_zero, List.set_cons_succ, i64_w, i32_w]
                rfl
              refine take_ (i := 33) (N := some 58) (v := ?_) (a' := ?_) (Go.Proofs.YthphgkhmeobadabX.bA 53 51539607551) rfl rfl (take_ofW HT_.out HW_.out (by kernel_rfl)) (fun _ _ _ h => h) (Or.inl ⟨by rfl, ?_⟩) hHeld ?_ ?_
              rotate_left
              · rintro w' ⟨s0, s1, s2, s3, s4, s5⟩
                go_simp
                with_reducible rfl
              rotate_left
              · simp only [Act.put, List.setIfInBounds_toArray, List.set_cons_zero, List.set_cons_succ, i64_w, i32_w]
                rfl
              refine take_ (i := 36) (N := some 61) (v := ?_) (a' := ?_) (Go.Proofs.YthphgkhmeobadabX.bA 53 120259084287) rfl rfl (take_ofW HT_.out HW_.out (by kernel_rfl)) (fun _ _ _ h => h) (Or.inl ⟨by rfl, ?_⟩) hHeld ?_ ?_
              rotate_left
              · rintro w' ⟨s0, s1, s2, s3, s4, s5⟩
                go_simp
                with_reducible rfl
              rotate_left
              · simp only [Act.put, List.setIfInBounds_toArray, List.set_cons_zero, List.set_cons_succ, i64_w, i32_w]
                rfl
              refine one_ (i := 34) (N := some 59) (Go.Proofs.YthphgkhmeobadabX.bA 53 137438953471) rfl rfl (one_of HT_.out (by kernel_rfl)) (by decide) (fun K hK => ?_)
              refine goes_ Try.func63 (by kernel_rfl) rfl #[.agg #[.int .i64 a0_0, .slice (some ad) l0_1.length c0_1], .int .i64 ((rd_T85 l0_1 x).f1)] (by rfl) rfl rfl (by (try simp only [List.map_toArray, List.map_cons, List.map_nil]); first | done | rfl) ?_
              with_reducible refine (impl_Diagram_varAt.calls a0_0 _ _ l0_1 ((rd_T85 l0_1 x).f1) v1 _ ?side1 ?side2 HV1.out).mono ?_
              (case side1 => exact Kd.C_below HR.out HB.out)
              (case side2 => exact HC.out)
              rintro e wn ⟨rfl, hb⟩
              refine ⟨_, rfl, ?_⟩
              have n0_ := Aside0.mk ((hb.block _ (blk_lt BKF.out)).trans BKF.out)
              have n1_ := Aside0.mk ((hb.block _ (blk_lt BKD.out)).trans BKD.out)
              have n2_ := Aside0.mk (HM.out.below hb)
              have n3_ := Aside0.mk (below_step HB.out hb)
              clear BKF BKD HM HB
              have BKF := n0_
              have BKD := n1_
              have HM := n2_
              have HB := n3_
              clear n0_ n1_ n2_ n3_ hb
              refine hK.out _ _ ⟨(blk_cell BKD.out 0).trans rfl, (blk_cell BKD.out 1).trans rfl, (blk_cell BKF.out 0).trans rfl, (blk_cell BKF.out 1).trans rfl, (blk_cell BKF.out 2).trans rfl, ((HM.out.look Try.underlying89 HGD.out).trans (congrArg (fun b_ => Result.ok (Value.bool b_) _) HSV.out))⟩ (fun hHeld => ?_)
              clear hK K
              refine norm_ (a' := ?_) ?_ ?_
              rotate_left
              · show Act.put _ (some 59) _ = _
                simp only [Act.put, List.setIfInBounds_toArray, List.set_cons_zero, List.set_cons_succ, i64_w, i32_w]
                rfl
              refine pure_ (i := 37) (N := some 62) (v := ?_) (a' := ?_) (Go.Proofs.YthphgkhmeobadabX.bA 53 274877906943) rfl rfl (any_of HT_.out (by kernel_rfl)) (fun _ _ _ h => h) (Or.inl ⟨by rfl, ?_⟩) ?_ ?_
              rotate_left
              · intro w'
                go_simp
                with_reducible rfl
              rotate_left
              · simp only [Act.put, List.setIfInBounds_toArray, List.set_cons_zero, List.set_cons_succ, i64_w, i32_w]
                rfl
              refine pure_ (i := 38) (N := some 63) (v := ?_) (a' := ?_) (Go.Proofs.YthphgkhmeobadabX.bA 53 549755813887) rfl rfl (any_of HT_.out (by kernel_rfl)) (fun _ _ _ h => h) (Or.inl ⟨by rfl, ?_⟩) ?_ ?_
              rotate_left
              · intro w'
                go_simp
                with_reducible rfl
              rotate_left
              · simp only [Act.put, List.setIfInBounds_toArray, List.set_cons_zero, List.set_cons_succ, i64_w, i32_w]
                rfl
              refine pure_ (i := 39) (N := some 64) (v := ?_) (a' := ?_) (Go.Proofs.YthphgkhmeobadabX.bA 53 1099511627775) rfl rfl (any_of HT_.out (by kernel_rfl)) (fun _ _ _ h => h) (Or.inl ⟨by rfl, ?_⟩) ?_ ?_
              rotate_left
              · intro w'
                go_simp
                with_reducible rfl
              rotate_left
              · simp only [Act.put, List.setIfInBounds_toArray, List.set_cons_zero, List.set_cons_succ, i64_w, i32_w]
                rfl
              refine pure_ (i := 41) (N := some 66) (v := ?_) (a' := ?_) (Go.Proofs.YthphgkhmeobadabX.bA 53 3298534883327) rfl rfl (any_of HT_.out (by kernel_rfl)) (fun _ _ _ h => h) (Or.inl ⟨by rfl, ?_⟩) ?_ ?_
              rotate_left
              · intro w'
                go_simp
                with_reducible rfl
              rotate_left
              · simp only [Act.put, List.setIfInBounds_toArray, List.set_cons_zero, List.set_cons_succ, i64_w, i32_w]
                rfl
              refine pure_ (i := 44) (N := some 69) (v := ?_) (a' := ?_) (Go.Proofs.YthphgkhmeobadabX.bA 53 20890720927743) rfl rfl (any_of HT_.out (by kernel_rfl)) (fun _ _ _ h => h) (Or.inl ⟨by rfl, ?_⟩) ?_ ?_
              rotate_left
              · intro w'
                go_simp
                with_reducible rfl
              rotate_left
              · simp only [Act.put, List.setIfInBounds_toArray, List.set_cons_zero, List.set_cons_succ, i64_w, i32_w]
                rfl
              refine take_ (i := 40) (N := some 65) (v := ?_) (a' := ?_) (Go.Proofs.YthphgkhmeobadabX.bA 53 21990232555519) rfl rfl (take_ofW HT_.out HW_.out (by kernel_rfl)) (fun _ _ _ h => h) (Or.inl ⟨by rfl, ?_⟩) hHeld ?_ ?_
              rotate_left
              · rintro w' ⟨s0, s1, s2, s3, s4, s5⟩
                go_simp
                with_reducible rfl
              rotate_left
              · simp only [Act.put, List.setIfInBounds_toArray, List.set_cons_zero, List.set_cons_succ, i64_w, i32_w]
                rfl
              refine take_ (i := 42) (N := some 67) (v := ?_) (a' := ?_) (Go.Proofs.YthphgkhmeobadabX.bA 53 26388279066623) rfl rfl (take_ofW HT_.out HW_.out (by kernel_rfl)) (fun _ _ _ h => h) (Or.inl ⟨by rfl, ?_⟩) hHeld ?_ ?_
              rotate_left
              · rintro w' ⟨s0, s1, s2, s3, s4, s5⟩
                go_simp
                with_reducible rfl
              rotate_left
              · simp only [Act.put, List.setIfInBounds_toArray, List.set_cons_zero, List.set_cons_succ, i64_w, i32_w]
                rfl
              refine take_ (i := 45) (N := some 70) (v := ?_) (a' := ?_) (Go.Proofs.YthphgkhmeobadabX.bA 53 61572651155455) rfl rfl (take_ofW HT_.out HW_.out (by kernel_rfl)) (fun _ _ _ h => h) (Or.inl ⟨by rfl, ?_⟩) hHeld ?_ ?_
              rotate_left
              · rintro w' ⟨s0, s1, s2, s3, s4, s5⟩
                go_simp
                with_reducible rfl
              rotate_left
              · simp only [Act.put, List.setIfInBounds_toArray, List.set_cons_zero, List.set_cons_succ, i64_w, i32_w]
                rfl
              refine one_ (i := 43) (N := some 68) (Go.Proofs.YthphgkhmeobadabX.bA 53 70368744177663) rfl rfl (one_of HT_.out (by kernel_rfl)) (by decide) (fun K hK => ?_)
              refine goes_ Try.func63 (by kernel_rfl) rfl #[.agg #[.int .i64 a0_0, .slice (some ad) l0_1.length c0_1], .int .i64 ((rd_T85 l0_1 x).f2)] (by rfl) rfl rfl (by (try simp only [List.map_toArray, List.map_cons, List.map_nil]); first | done | rfl) ?_
              with_reducible refine (impl_Diagram_varAt.calls a0_0 _ _ l0_1 ((rd_T85 l0_1 x).f2) v2 _ ?side1 ?side2 HV2.out).mono ?_
              (case side1 => exact Kd.C_below HR.out HB.out)
              (case side2 => exact HC.out)
              rintro e wn ⟨rfl, hb⟩
              refine ⟨_, rfl, ?_⟩
              have n0_ := Aside0.mk ((hb.block _ (blk_lt BKF.out)).trans BKF.out)
              have n1_ := Aside0.mk ((hb.block _ (blk_lt BKD.out)).trans BKD.out)
              have n2_ := Aside0.mk (HM.out.below hb)
              have n3_ := Aside0.mk (below_step HB.out hb)
              clear BKF BKD HM HB
              have BKF := n0_
              have BKD := n1_
              have HM := n2_
              have HB := n3_
              clear n0_ n1_ n2_ n3_ hb
              refine hK.out _ _ ⟨(blk_cell BKD.out 0).trans rfl, (blk_cell BKD.out 1).trans rfl, (blk_cell BKF.out 0).trans rfl, (blk_cell BKF.out 1).trans rfl, (blk_cell BKF.out 2).trans rfl, ((HM.out.look Try.underlying89 HGD.out).trans (congrArg (fun b_ => Result.ok (Value.bool b_) _) HSV.out))⟩ (fun hHeld => ?_)
              clear hK K
              refine norm_ (a' := ?_) ?_ ?_
              rotate_left
              · show Act.put _ (some 68) _ = _
                simp only [Act.put, List.setIfInBounds_toArray, List.set_cons_zero, List.set_cons_succ, i64_w, i32_w]
                rfl
              refine pure_ (i := 46) (N := some 71) (v := ?_) (a' := ?_) (Go.Proofs.YthphgkhmeobadabX.bA 53 140737488355327) rfl rfl (any_of HT_.out (by kernel_rfl)) (fun _ _ _ h => h) (Or.inl ⟨by rfl, ?_⟩) ?_ ?_
              rotate_left
              · intro w'
                go_simp
                with_reducible rfl
              rotate_left
              · simp only [Act.put, List.setIfInBounds_toArray, List.set_cons_zero, List.set_cons_succ, i64_w, i32_w]
                rfl
              refine pure_ (i := 47) (N := some 72) (v := ?_) (a' := ?_) (Go.Proofs.YthphgkhmeobadabX.bA 53 281474976710655) rfl rfl (any_of HT_.out (by kernel_rfl)) (fun _ _ _ h => h) (Or.inl ⟨by rfl, ?_⟩) ?_ ?_
              rotate_left
              · intro w'
                go_simp
                with_reducible rfl
              rotate_left
              · simp only [Act.put, List.setIfInBounds_toArray, List.set_cons_zero, List.set_cons_succ, i64_w, i32_w]
                rfl
              refine pure_ (i := 48) (N := some 73) (v := ?_) (a' := ?_) (Go.Proofs.YthphgkhmeobadabX.bA 53 562949953421311) rfl rfl (any_of HT_.out (by kernel_rfl)) (fun _ _ _ h => h) (Or.inl ⟨by rfl, ?_⟩) ?_ ?_
              rotate_left
              · intro w'
                go_simp
                with_reducible rfl
              rotate_left
              · simp only [Act.put, List.setIfInBounds_toArray, List.set_cons_zero, List.set_cons_succ, i64_w, i32_w]
                rfl
              refine pure_ (i := 49) (N := some 74) (v := ?_) (a' := ?_) (Go.Proofs.YthphgkhmeobadabX.bA 53 1125899906842623) rfl rfl (any_of HT_.out (by kernel_rfl)) (fun _ _ _ h => h) (Or.inl ⟨by rfl, ?_⟩) ?_ ?_
              rotate_left
              · intro w'
                go_simp
                with_reducible rfl
              rotate_left
              · simp only [Act.put, List.setIfInBounds_toArray, List.set_cons_zero, List.set_cons_succ, i64_w, i32_w]
                rfl
              refine take_ (i := 50) (N := some 75) (v := ?_) (a' := ?_) (Go.Proofs.YthphgkhmeobadabX.bA 53 2251799813685247) rfl rfl (take_ofW HT_.out HW_.out (by kernel_rfl)) (fun _ _ _ h => h) (Or.inl ⟨by rfl, ?_⟩) hHeld ?_ ?_
              rotate_left
              · rintro w' ⟨s0, s1, s2, s3, s4, s5⟩
                go_simp
                with_reducible rfl
              rotate_left
              · simp only [Act.put, List.setIfInBounds_toArray, List.set_cons_zero, List.set_cons_succ, i64_w, i32_w]
                rfl
              refine take_ (i := 51) (N := some 76) (v := ?_) (a' := ?_) (Go.Proofs.YthphgkhmeobadabX.bA 53 4503599627370495) rfl rfl (take_ofW HT_.out HW_.out (by kernel_rfl)) (fun _ _ _ h => h) (Or.inl ⟨by rfl, ?_⟩) hHeld ?_ ?_
              rotate_left
              · rintro w' ⟨s0, s1, s2, s3, s4, s5⟩
                go_simp
                with_reducible rfl
              rotate_left
              · simp only [Act.put, List.setIfInBounds_toArray, List.set_cons_zero, List.set_cons_succ, i64_w, i32_w]
                rfl
              refine pure_ (i := 52) (N := some 77) (v := ?_) (a' := ?_) (Go.Proofs.YthphgkhmeobadabX.bA 53 9007199254740991) rfl rfl (any_of HT_.out (by kernel_rfl)) (fun _ _ _ h => h) (Or.inl ⟨by rfl, ?_⟩) ?_ ?_
              rotate_left
              · intro w'
                go_simp
                with_reducible rfl
              rotate_left
              · simp only [Act.put, List.setIfInBounds_toArray, List.set_cons_zero, List.set_cons_succ, i64_w, i32_w]
                rfl
              refine done_ (done_of HT_.out (by kernel_rfl)) ?_
              try go_wp2
              go_ret
              exact ⟨rfl, HB.out⟩
            | none =>
              have HSV := Aside0.mk (show (impl_DiagramValid.F l0_1 x.toNat (rd_T85 l0_1 x)).getD false = false by rw [hs]; rfl)
              rw [hs] at hbb
              obtain rfl : b = true := hbb
              clear hs
              refine start_ (n := 53) (S := fun w' => w'.cell? ⟨gd, 0, none⟩ = some (.int .i64 a0_0) ∧ w'.cell? ⟨gd, 1, none⟩ = some (.slice (some ad) l0_1.length c0_1) ∧ w'.cell? ⟨gf, 0, none⟩ = some (.int .i64 ((rd_T85 l0_1 x).f0)) ∧ w'.cell? ⟨gf, 1, none⟩ = some (.int .i64 ((rd_T85 l0_1 x).f1)) ∧ w'.cell? ⟨gf, 2, none⟩ = some (.int .i64 ((rd_T85 l0_1 x).f2)) ∧ (Instr.lookup 89 (.map (some bm)) (.agg #[.int .i64 ((rd_T85 l0_1 x).f0), .int .i64 ((rd_T85 l0_1 x).f1), .int .i64 ((rd_T85 l0_1 x).f2)]) false).run Try.prog w' = .ok (.bool false) w') (ds := []) #[false, false, false, false, false, false, false, false, false, false, false, false, false, false, false, false, false, false, false, false, false, false, false, false, false, false, false, false, false, false, false, false, false, false, false, false, false, false, false, false, false, false, false, false, false, false, false, false, false, false, false, false, false] (by kernel_rfl) rfl rfl ⟨(blk_cell BKD.out 0).trans rfl, (blk_cell BKD.out 1).trans rfl, (blk_cell BKF.out 0).trans rfl, (blk_cell BKF.out 1).trans rfl, (blk_cell BKF.out 2).trans rfl, ((HM.out.look Try.underlying89 HGD.out).trans (congrArg (fun b_ => Result.ok (Value.bool b_) _) HSV.out))⟩ (fun hHeld => ?_)
              refine with_tabW impl_DiagramValid.tab7 impl_DiagramValid.bits7 (fun HT_ HW_ => ?_)
              generalize wz.drew = wy at BKF BKD HM HB hHeld ⊢
              refine pure_ (i := 0) (N := some 25) (v := ?_) (a' := ?_) (Go.Proofs.YthphgkhmeobadabX.bA 53 1) rfl rfl (any_of HT_.out (by kernel_rfl)) (fun _ _ _ h => h) (Or.inl ⟨by rfl, ?_⟩) ?_ ?_
              rotate_left
              · intro w'
                go_simp
                with_reducible rfl
              rotate_left
              · simp only [Act.put, List.setIfInBounds_toArray, List.set_cons_zero, List.set_cons_succ, i64_w, i32_w]
                rfl
              refine pure_ (i := 2) (N := some 27) (v := ?_) (a' := ?_) (Go.Proofs.YthphgkhmeobadabX.bA 53 5) rfl rfl (any_of HT_.out (by kernel_rfl)) (fun _ _ _ h => h) (Or.inl ⟨by rfl, ?_⟩) ?_ ?_
              rotate_left
              · intro w'
                go_simp
                with_reducible rfl
              rotate_left
              · simp only [Act.put, List.setIfInBounds_toArray, List.set_cons_zero, List.set_cons_succ, i64_w, i32_w]
                rfl
              refine take_ (i := 1) (N := some 26) (v := ?_) (a' := ?_) (Go.Proofs.YthphgkhmeobadabX.bA 53 7) rfl rfl (take_ofW HT_.out HW_.out (by kernel_rfl)) (fun _ _ _ h => h) (Or.inl ⟨by rfl, ?_⟩) hHeld ?_ ?_
              rotate_left
              · rintro w' ⟨s0, s1, s2, s3, s4, s5⟩
                go_simp
                with_reducible rfl
              rotate_left
              · simp only [Act.put, List.setIfInBounds_toArray, List.set_cons_zero, List.set_cons_succ, i64_w, i32_w]
                rfl
              refine take_ (i := 3) (N := some 28) (v := ?_) (a' := ?_) (Go.Proofs.YthphgkhmeobadabX.bA 53 15) rfl rfl (take_ofW HT_.out HW_.out (by kernel_rfl)) (fun _ _ _ h => h) (Or.inl ⟨by rfl, ?_⟩) hHeld ?_ ?_
              rotate_left
              · rintro w' ⟨s0, s1, s2, s3, s4, s5⟩
                go_simp
                with_reducible rfl
              rotate_left
              · simp only [Act.put, List.setIfInBounds_toArray, List.set_cons_zero, List.set_cons_succ, i64_w, i32_w]
                rfl
              refine pure_ (i := 4) (N := some 29) (v := ?_) (a' := ?_) (Go.Proofs.YthphgkhmeobadabX.bA 53 31) rfl rfl (any_of HT_.out (by kernel_rfl)) (fun _ _ _ h => h) (Or.inl ⟨by rfl, ?_⟩) ?_ ?_
              rotate_left
              · intro w'
                go_simp
                with_reducible rfl
              rotate_left
              · simp only [Act.put, List.setIfInBounds_toArray, List.set_cons_zero, List.set_cons_succ, i64_w, i32_w]
                rfl
              refine one_ (i := 5) (N := some 30) (Go.Proofs.YthphgkhmeobadabX.bA 53 63) rfl rfl (one_of HT_.out (by kernel_rfl)) (by decide) (fun K hK => ?_)
              refine goes_ Try.func47 (by kernel_rfl) rfl #[.int .i64 ((rd_T85 l0_1 x).f0), .int .i64 0, .int .i64 (wrap64 (a0_0 - 1))] (by rfl) rfl rfl (by (try simp only [List.map_toArray, List.map_cons, List.map_nil]); first | done | rfl) ?_
              with_reducible refine (impl_in.calls ((rd_T85 l0_1 x).f0) 0 (wrap64 (a0_0 - 1)) true _ HT1.out).mono ?_
              rintro e wn ⟨rfl, hd⟩
              have hb := hd.below
              clear hd
              refine ⟨_, rfl, ?_⟩
              have n0_ := Aside0.mk ((hb.block _ (blk_lt BKF.out)).trans BKF.out)
              have n1_ := Aside0.mk ((hb.block _ (blk_lt BKD.out)).trans BKD.out)
              have n2_ := Aside0.mk (HM.out.below hb)
              have n3_ := Aside0.mk (below_step HB.out hb)
              clear BKF BKD HM HB
              have BKF := n0_
              have BKD := n1_
              have HM := n2_
              have HB := n3_
              clear n0_ n1_ n2_ n3_ hb
              refine hK.out _ _ ⟨(blk_cell BKD.out 0).trans rfl, (blk_cell BKD.out 1).trans rfl, (blk_cell BKF.out 0).trans rfl, (blk_cell BKF.out 1).trans rfl, (blk_cell BKF.out 2).trans rfl, ((HM.out.look Try.underlying89 HGD.out).trans (congrArg (fun b_ => Result.ok (Value.bool b_) _) HSV.out))⟩ (fun hHeld => ?_)
              clear hK K
              refine norm_ (a' := ?_) ?_ ?_
              rotate_left
              · show Act.put _ (some 30) _ = _
                simp only [Act.put, List.setIfInBounds_toArray, List.set_cons_zero, List.set_cons_succ, i64_w, i32_w]
                rfl
              refine pure_ (i := 6) (N := some 31) (v := ?_) (a' := ?_) (Go.Proofs.YthphgkhmeobadabX.bA 53 127) rfl rfl (any_of HT_.out (by kernel_rfl)) (fun _ _ _ h => h) (Or.inl ⟨by rfl, ?_⟩) ?_ ?_
              rotate_left
              · intro w'
                go_simp
                with_reducible rfl
              rotate_left
              · simp only [Act.put, List.setIfInBounds_toArray, List.set_cons_zero, List.set_cons_succ, i64_w, i32_w]
                rfl
              refine pure_ (i := 7) (N := some 32) (v := ?_) (a' := ?_) (Go.Proofs.YthphgkhmeobadabX.bA 53 255) rfl rfl (any_of HT_.out (by kernel_rfl)) (fun _ _ _ h => h) (Or.inl ⟨by rfl, ?_⟩) ?_ ?_
              rotate_left
              · intro w'
                go_simp
                with_reducible rfl
              rotate_left
              · simp only [Act.put, List.setIfInBounds_toArray, List.set_cons_zero, List.set_cons_succ, i64_w, i32_w]
                rfl
              refine pure_ (i := 8) (N := some 33) (v := ?_) (a' := ?_) (Go.Proofs.YthphgkhmeobadabX.bA 53 511) rfl rfl (any_of HT_.out (by kernel_rfl)) (fun _ _ _ h => h) (Or.inl ⟨by rfl, ?_⟩) ?_ ?_
              rotate_left
              · intro w'
                go_simp
                with_reducible rfl
              rotate_left
              · simp only [Act.put, List.setIfInBounds_toArray, List.set_cons_zero, List.set_cons_succ, i64_w, i32_w]
                rfl
              refine pure_ (i := 10) (N := some 35) (v := ?_) (a' := ?_) (Go.Proofs.YthphgkhmeobadabX.bA 53 1535) rfl rfl (any_of HT_.out (by kernel_rfl)) (fun _ _ _ h => h) (Or.inl ⟨by rfl, ?_⟩) ?_ ?_
              rotate_left
              · intro w'
                go_simp
                with_reducible rfl
              rotate_left
              · simp only [Act.put, List.setIfInBounds_toArray, List.set_cons_zero, List.set_cons_succ, i64_w, i32_w]
                rfl
              refine pure_ (i := 11) (N := some 36) (v := ?_) (a' := ?_) (Go.Proofs.YthphgkhmeobadabX.bA 53 3583) rfl rfl (any_of HT_.out (by kernel_rfl)) (fun _ _ _ h => h) (Or.inl ⟨by rfl, ?_⟩) ?_ ?_
              rotate_left
              · intro w'
                go_simp
                with_reducible rfl
              rotate_left
              · simp only [Act.put, List.setIfInBounds_toArray, List.set_cons_zero, List.set_cons_succ, i64_w, i32_w]
                rfl
              refine take_ (i := 9) (N := some 34) (v := ?_) (a' := ?_) (Go.Proofs.YthphgkhmeobadabX.bA 53 4095) rfl rfl (take_ofW HT_.out HW_.out (by kernel_rfl)) (fun _ _ _ h => h) (Or.inl ⟨by rfl, ?_⟩) hHeld ?_ ?_
              rotate_left
              · rintro w' ⟨s0, s1, s2, s3, s4, s5⟩
                go_simp
                with_reducible rfl
              rotate_left
              · simp only [Act.put, List.setIfInBounds_toArray, List.set_cons_zero, List.set_cons_succ, i64_w, i32_w]
                rfl
              refine one_ (i := 12) (N := some 37) (Go.Proofs.YthphgkhmeobadabX.bA 53 8191) rfl rfl (one_of HT_.out (by kernel_rfl)) (by decide) (fun K hK => ?_)
              refine goes_ Try.func47 (by kernel_rfl) rfl #[.int .i64 ((rd_T85 l0_1 x).f1), .int .i64 0, .int .i64 (wrap64 (x + 1))] (by rfl) rfl rfl (by (try simp only [List.map_toArray, List.map_cons, List.map_nil]); first | done | rfl) ?_
              with_reducible refine (impl_in.calls ((rd_T85 l0_1 x).f1) 0 (wrap64 (x + 1)) true _ HT2.out).mono ?_
              rintro e wn ⟨rfl, hd⟩
              have hb := hd.below
              clear hd
              refine ⟨_, rfl, ?_⟩
              have n0_ := Aside0.mk ((hb.block _ (blk_lt BKF.out)).trans BKF.out)
              have n1_ := Aside0.mk ((hb.block _ (blk_lt BKD.out)).trans BKD.out)
              have n2_ := Aside0.mk (HM.out.below hb)
              have n3_ := Aside0.mk (below_step HB.out hb)
              clear BKF BKD HM HB
              have BKF := n0_
              have BKD := n1_
              have HM := n2_
              have HB := n3_
              clear n0_ n1_ n2_ n3_ hb
              refine hK.out _ _ ⟨(blk_cell BKD.out 0).trans rfl, (blk_cell BKD.out 1).trans rfl, (blk_cell BKF.out 0).trans rfl, (blk_cell BKF.out 1).trans rfl, (blk_cell BKF.out 2).trans rfl, ((HM.out.look Try.underlying89 HGD.out).trans (congrArg (fun b_ => Result.ok (Value.bool b_) _) HSV.out))⟩ (fun hHeld => ?_)
              clear hK K
              refine norm_ (a' := ?_) ?_ ?_
              rotate_left
              · show Act.put _ (some 37) _ = _
                simp only [Act.put, List.setIfInBounds_toArray, List.set_cons_zero, List.set_cons_succ, i64_w, i32_w]
                rfl
              refine pure_ (i := 13) (N := some 38) (v := ?_) (a' := ?_) (Go.Proofs.YthphgkhmeobadabX.bA 53 16383) rfl rfl (any_of HT_.out (by kernel_rfl)) (fun _ _ _ h => h) (Or.inl ⟨by rfl, ?_⟩) ?_ ?_
              rotate_left
              · intro w'
                go_simp
                with_reducible rfl
              rotate_left
              · simp only [Act.put, List.setIfInBounds_toArray, List.set_cons_zero, List.set_cons_succ, i64_w, i32_w]
                rfl
              refine pure_ (i := 14) (N := some 39) (v := ?_) (a' := ?_) (Go.Proofs.YthphgkhmeobadabX.bA 53 32767) rfl rfl (any_of HT_.out (by kernel_rfl)) (fun _ _ _ h => h) (Or.inl ⟨by rfl, ?_⟩) ?_ ?_
              rotate_left
              · intro w'
                go_simp
                with_reducible rfl
              rotate_left
              · simp only [Act.put, List.setIfInBounds_toArray, List.set_cons_zero, List.set_cons_succ, i64_w, i32_w]
                rfl
              refine pure_ (i := 15) (N := some 40) (v := ?_) (a' := ?_) (Go.Proofs.YthphgkhmeobadabX.bA 53 65535) rfl rfl (any_of HT_.out (by kernel_rfl)) (fun _ _ _ h => h) (Or.inl ⟨by rfl, ?_⟩) ?_ ?_
              rotate_left
              · intro w'
                go_simp
                with_reducible rfl
              rotate_left
              · simp only [Act.put, List.setIfInBounds_toArray, List.set_cons_zero, List.set_cons_succ, i64_w, i32_w]
                rfl
              refine pure_ (i := 16) (N := some 41) (v := ?_) (a' := ?_) (Go.Proofs.YthphgkhmeobadabX.bA 53 131071) rfl rfl (any_of HT_.out (by kernel_rfl)) (fun _ _ _ h => h) (Or.inl ⟨by rfl, ?_⟩) ?_ ?_
              rotate_left
              · intro w'
                go_simp
                with_reducible rfl
              rotate_left
              · simp only [Act.put, List.setIfInBounds_toArray, List.set_cons_zero, List.set_cons_succ, i64_w, i32_w]
                rfl
              refine pure_ (i := 18) (N := some 43) (v := ?_) (a' := ?_) (Go.Proofs.YthphgkhmeobadabX.bA 53 393215) rfl rfl (any_of HT_.out (by kernel_rfl)) (fun _ _ _ h => h) (Or.inl ⟨by rfl, ?_⟩) ?_ ?_
              rotate_left
              · intro w'
                go_simp
                with_reducible rfl
              rotate_left
              · simp only [Act.put, List.setIfInBounds_toArray, List.set_cons_zero, List.set_cons_succ, i64_w, i32_w]
                rfl
              refine pure_ (i := 19) (N := some 44) (v := ?_) (a' := ?_) (Go.Proofs.YthphgkhmeobadabX.bA 53 917503) rfl rfl (any_of HT_.out (by kernel_rfl)) (fun _ _ _ h => h) (Or.inl ⟨by rfl, ?_⟩) ?_ ?_
              rotate_left
              · intro w'
                go_simp
                with_reducible rfl
              rotate_left
              · simp only [Act.put, List.setIfInBounds_toArray, List.set_cons_zero, List.set_cons_succ, i64_w, i32_w]
                rfl
              refine take_ (i := 17) (N := some 42) (v := ?_) (a' := ?_) (Go.Proofs.YthphgkhmeobadabX.bA 53 1048575) rfl rfl (take_ofW HT_.out HW_.out (by kernel_rfl)) (fun _ _ _ h => h) (Or.inl ⟨by rfl, ?_⟩) hHeld ?_ ?_
              rotate_left
              · rintro w' ⟨s0, s1, s2, s3, s4, s5⟩
                go_simp
                with_reducible rfl
              rotate_left
              · simp only [Act.put, List.setIfInBounds_toArray, List.set_cons_zero, List.set_cons_succ, i64_w, i32_w]
                rfl
              refine one_ (i := 20) (N := some 45) (Go.Proofs.YthphgkhmeobadabX.bA 53 2097151) rfl rfl (one_of HT_.out (by kernel_rfl)) (by decide) (fun K hK => ?_)
              refine goes_ Try.func47 (by kernel_rfl) rfl #[.int .i64 ((rd_T85 l0_1 x).f2), .int .i64 0, .int .i64 (wrap64 (x + 1))] (by rfl) rfl rfl (by (try simp only [List.map_toArray, List.map_cons, List.map_nil]); first | done | rfl) ?_
              with_reducible refine (impl_in.calls ((rd_T85 l0_1 x).f2) 0 (wrap64 (x + 1)) true _ HT3.out).mono ?_
              rintro e wn ⟨rfl, hd⟩
              have hb := hd.below
              clear hd
              refine ⟨_, rfl, ?_⟩
              have n0_ := Aside0.mk ((hb.block _ (blk_lt BKF.out)).trans BKF.out)
              have n1_ := Aside0.mk ((hb.block _ (blk_lt BKD.out)).trans BKD.out)
              have n2_ := Aside0.mk (HM.out.below hb)
              have n3_ := Aside0.mk (below_step HB.out hb)
              clear BKF BKD HM HB
              have BKF := n0_
              have BKD := n1_
              have HM := n2_
              have HB := n3_
              clear n0_ n1_ n2_ n3_ hb
              refine hK.out _ _ ⟨(blk_cell BKD.out 0).trans rfl, (blk_cell BKD.out 1).trans rfl, (blk_cell BKF.out 0).trans rfl, (blk_cell BKF.out 1).trans rfl, (blk_cell BKF.out 2).trans rfl, ((HM.out.look Try.underlying89 HGD.out).trans (congrArg (fun b_ => Result.ok (Value.bool b_) _) HSV.out))⟩ (fun hHeld => ?_)
              clear hK K
              refine norm_ (a' := ?_) ?_ ?_
              rotate_left
              · show Act.put _ (some 45) _ = _
                simp only [Act.put, List.setIfInBounds_toArray, List.set_cons_zero, List.set_cons_succ, i64_w, i32_w]
                rfl
              refine pure_ (i := 21) (N := some 46) (v := ?_) (a' := ?_) (Go.Proofs.YthphgkhmeobadabX.bA 53 4194303) rfl rfl (any_of HT_.out (by kernel_rfl)) (fun _ _ _ h => h) (Or.inl ⟨by rfl, ?_⟩) ?_ ?_
              rotate_left
              · intro w'
                go_simp
                with_reducible rfl
              rotate_left
              · simp only [Act.put, List.setIfInBounds_toArray, List.set_cons_zero, List.set_cons_succ, i64_w, i32_w]
                rfl
              refine pure_ (i := 22) (N := some 47) (v := ?_) (a' := ?_) (Go.Proofs.YthphgkhmeobadabX.bA 53 8388607) rfl rfl (any_of HT_.out (by kernel_rfl)) (fun _ _ _ h => h) (Or.inl ⟨by rfl, ?_⟩) ?_ ?_
              rotate_left
              · intro w'
                go_simp
                with_reducible rfl
              rotate_left
              · simp only [Act.put, List.setIfInBounds_toArray, List.set_cons_zero, List.set_cons_succ, i64_w, i32_w]
                rfl
              refine pure_ (i := 23) (N := some 48) (v := ?_) (a' := ?_) (Go.Proofs.YthphgkhmeobadabX.bA 53 16777215) rfl rfl (any_of HT_.out (by kernel_rfl)) (fun _ _ _ h => h) (Or.inl ⟨by rfl, ?_⟩) ?_ ?_
              rotate_left
              · intro w'
                go_simp
                with_reducible rfl
              rotate_left
              · simp only [Act.put, List.setIfInBounds_toArray, List.set_cons_zero, List.set_cons_succ, i64_w, i32_w]
                rfl
              refine pure_ (i := 24) (N := some 49) (v := ?_) (a' := ?_) (Go.Proofs.YthphgkhmeobadabX.bA 53 33554431) rfl rfl (any_of HT_.out (by kernel_rfl)) (fun _ _ _ h => h) (Or.inl ⟨by rfl, ?_⟩) ?_ ?_
              rotate_left
              · intro w'
                go_simp
                with_reducible rfl
              rotate_left
              · simp only [Act.put, List.setIfInBounds_toArray, List.set_cons_zero, List.set_cons_succ, i64_w, i32_w]
                rfl
              refine pure_ (i := 26) (N := some 51) (v := ?_) (a' := ?_) (Go.Proofs.YthphgkhmeobadabX.bA 53 100663295) rfl rfl (any_of HT_.out (by kernel_rfl)) (fun _ _ _ h => h) (Or.inl ⟨by rfl, ?_⟩) ?_ ?_
              rotate_left
              · intro w'
                go_simp
                with_reducible rfl
              rotate_left
              · simp only [Act.put, List.setIfInBounds_toArray, List.set_cons_zero, List.set_cons_succ, i64_w, i32_w]
                rfl
              refine take_ (i := 25) (N := some 50) (v := ?_) (a' := ?_) (Go.Proofs.YthphgkhmeobadabX.bA 53 134217727) rfl rfl (take_ofW HT_.out HW_.out (by kernel_rfl)) (fun _ _ _ h => h) (Or.inl ⟨by rfl, ?_⟩) hHeld ?_ ?_
              rotate_left
              · rintro w' ⟨s0, s1, s2, s3, s4, s5⟩
                go_simp
                with_reducible rfl
              rotate_left
              · simp only [Act.put, List.setIfInBounds_toArray, List.set_cons_zero, List.set_cons_succ, i64_w, i32_w]
                rfl
              refine take_ (i := 27) (N := some 52) (v := ?_) (a' := ?_) (Go.Proofs.YthphgkhmeobadabX.bA 53 268435455) rfl rfl (take_ofW HT_.out HW_.out (by kernel_rfl)) (fun _ _ _ h => h) (Or.inl ⟨by rfl, ?_⟩) hHeld ?_ ?_
              rotate_left
              · rintro w' ⟨s0, s1, s2, s3, s4, s5⟩
                go_simp
                with_reducible rfl
              rotate_left
              · simp only [Act.put, List.setIfInBounds_toArray, List.set_cons_zero, List.set_cons_succ, i64_w, i32_w]
                rfl
              refine pure_ (i := 28) (N := some 53) (v := ?_) (a' := ?_) (Go.Proofs.YthphgkhmeobadabX.bA 53 536870911) rfl rfl (any_of HT_.out (by kernel_rfl)) (fun _ _ _ h => h) (Or.inl ⟨by rfl, ?_⟩) ?_ ?_
              rotate_left
              · intro w'
                go_simp
                with_reducible rfl
              rotate_left
              · simp only [Act.put, List.setIfInBounds_toArray, List.set_cons_zero, List.set_cons_succ, i64_w, i32_w]
                rfl
              refine pure_ (i := 29) (N := some 54) (v := ?_) (a' := ?_) (Go.Proofs.YthphgkhmeobadabX.bA 53 1073741823) rfl rfl (any_of HT_.out (by kernel_rfl)) (fun _ _ _ h => h) (Or.inl ⟨by rfl, ?_⟩) ?_ ?_
              rotate_left
              · intro w'
                go_simp
                with_reducible rfl
              rotate_left
              · simp only [Act.put, List.setIfInBounds_toArray, List.set_cons_zero, List.set_cons_succ, i64_w, i32_w]
                rfl
              refine pure_ (i := 30) (N := some 55) (v := ?_) (a' := ?_) (Go.Proofs.YthphgkhmeobadabX.bA 53 2147483647) rfl rfl (any_of HT_.out (by kernel_rfl)) (fun _ _ _ h => h) (Or.inl ⟨by rfl, ?_⟩) ?_ ?_
              rotate_left
              · intro w'
                go_simp
                with_reducible rfl
              rotate_left
              · simp only [Act.put, List.setIfInBounds_toArray, List.set_cons_zero, List.set_cons_succ, i64_w, i32_w]
                rfl
              refine pure_ (i := 32) (N := some 57) (v := ?_) (a' := ?_) (Go.Proofs.YthphgkhmeobadabX.bA 53 6442450943) rfl rfl (any_of HT_.out (by kernel_rfl)) (fun _ _ _ h => h) (Or.inl ⟨by rfl, ?_⟩) ?_ ?_
              rotate_left
              · intro w'
                go_simp
                with_reducible rfl
              rotate_left
              · simp only [Act.put, List.setIfInBounds_toArray, List.set_cons_zero, List.set_cons_succ, i64_w, i32_w]
                rfl
              refine pure_ (i := 35) (N := some 60) (v := ?_) (a' := ?_) (Go.Proofs.YthphgkhmeobadabX.bA 53 40802189311) rfl rfl (any_of HT_.out (by kernel_rfl)) (fun _ _ _ h => h) (Or.inl ⟨by rfl, ?_⟩) ?_ ?_
              rotate_left
              · intro w'
                go_simp
                with_reducible rfl
              rotate_left
              · simp only [Act.put, List.setIfInBounds_toArray, List.set_cons_zero, List.set_cons_succ, i64_w, i32_w]
                rfl
              refine take_ (i := 31) (N := some 56) (v := ?_) (a' := ?_) (Go.Proofs.YthphgkhmeobadabX.bA 53 42949672959) rfl rfl (take_ofW HT_.out HW_.out (by kernel_rfl)) (fun _ _ _ h => h) (Or.inl ⟨by rfl, ?_⟩) hHeld ?_ ?_
              rotate_left
              · rintro w' ⟨s0, s1, s2, s3, s4, s5⟩
                go_simp
                with_reducible rfl
              rotate_left
              · simp only [Act.put, List.setIfInBounds_toArray, List.set_cons_zero, List.set_cons_succ, i64_w, i32_w]
                rfl
              refine take_ (i := 33) (N := some 58) (v := ?_) (a' := ?_) (Go.Proofs.YthphgkhmeobadabX.bA 53 51539607551) rfl rfl (take_ofW HT_.out HW_.out (by kernel_rfl)) (fun _ _ _ h => h) (Or.inl ⟨by rfl, ?_⟩) hHeld ?_ ?_
              rotate_left
              · rintro w' ⟨s0, s1, s2, s3, s4, s5⟩
                go_simp
                with_reducible rfl
              rotate_left
              · simp only [Act.put, List.setIfInBounds_toArray, List.set_cons_zero, List.set_cons_succ, i64_w, i32_w]
                rfl
              refine take_ (i := 36) (N := some 61) (v := ?_) (a' := ?_) (Go.Proofs.YthphgkhmeobadabX.bA 53 120259084287) rfl rfl (take_ofW HT_.out HW_.out (by kernel_rfl)) (fun _ _ _ h => h) (Or.inl ⟨by rfl, ?_⟩) hHeld ?_ ?_
              rotate_left
              · rintro w' ⟨s0, s1, s2, s3, s4, s5⟩
                go_simp
                with_reducible rfl
              rotate_left
              · simp only [Act.put, List.setIfInBounds_toArray, List.set_cons_zero, List.set_cons_succ, i64_w, i32_w]
                rfl
              refine one_ (i := 34) (N := some 59) (Go.Proofs.YthphgkhmeobadabX.bA 53 137438953471) rfl rfl (one_of HT_.out (by kernel_rfl)) (by decide) (fun K hK => ?_)
              refine goes_ Try.func63 (by kernel_rfl) rfl #[.agg #[.int .i64 a0_0, .slice (some ad) l0_1.length c0_1], .int .i64 ((rd_T85 l0_1 x).f1)] (by rfl) rfl rfl (by (try simp only [List.map_toArray, List.map_cons, List.map_nil]); first | done | rfl) ?_
              with_reducible refine (impl_Diagram_varAt.calls a0_0 _ _ l0_1 ((rd_T85 l0_1 x).f1) v1 _ ?side1 ?side2 HV1.out).mono ?_
              (case side1 => exact Kd.C_below HR.out HB.out)
              (case side2 => exact HC.out)
              rintro e wn ⟨rfl, hb⟩
              refine ⟨_, rfl, ?_⟩
              have n0_ := Aside0.mk ((hb.block _ (blk_lt BKF.out)).trans BKF.out)
              have n1_ := Aside0.mk ((hb.block _ (blk_lt BKD.out)).trans BKD.out)
              have n2_ := Aside0.mk (HM.out.below hb)
              have n3_ := Aside0.mk (below_step HB.out hb)
              clear BKF BKD HM HB
              have BKF := n0_
              have BKD := n1_
              have HM := n2_
              have HB := n3_
              clear n0_ n1_ n2_ n3_ hb
              refine hK.out _ _ ⟨(blk_cell BKD.out 0).trans rfl, (blk_cell BKD.out 1).trans rfl, (blk_cell BKF.out 0).trans rfl, (blk_cell BKF.out 1).trans rfl, (blk_cell BKF.out 2).trans rfl, ((HM.out.look Try.underlying89 HGD.out).trans (congrArg (fun b_ => Result.ok (Value.bool b_) _) HSV.out))⟩ (fun hHeld => ?_)
              clear hK K
              refine norm_ (a' := ?_) ?_ ?_
              rotate_left
              · show Act.put _ (some 59) _ = _
                simp only [Act.put, List.setIfInBounds_toArray, List.set_cons_zero, List.set_cons_succ, i64_w, i32_w]
                rfl
              refine pure_ (i := 37) (N := some 62) (v := ?_) (a' := ?_) (Go.Proofs.YthphgkhmeobadabX.bA 53 274877906943) rfl rfl (any_of HT_.out (by kernel_rfl)) (fun _ _ _ h => h) (Or.inl ⟨by rfl, ?_⟩) ?_ ?_
              rotate_left
              · intro w'
                go_simp
                with_reducible rfl
              rotate_left
              · simp only [Act.put, List.setIfInBounds_toArray, List.set_cons_zero, List.set_cons_succ, i64_w, i32_w]
                rfl
              refine pure_ (i := 38) (N := some 63) (v := ?_) (a' := ?_) (Go.Proofs.YthphgkhmeobadabX.bA 53 549755813887) rfl rfl (any_of HT_.out (by kernel_rfl)) (fun _ _ _ h => h) (Or.inl ⟨by rfl, ?_⟩) ?_ ?_
              rotate_left
              · intro w'
                go_simp
                with_reducible rfl
              rotate_left
              · simp only [Act.put, List.setIfInBounds_toArray, List.set_cons_zero, List.set_cons_succ, i64_w, i32_w]
                rfl
              refine pure_ (i := 39) (N := some 64) (v := ?_) (a' := ?_) (Go.Proofs.YthphgkhmeobadabX.bA 53 1099511627775) rfl rfl (any_of HT_.out (by kernel_rfl)) (fun _ _ _ h => h) (Or.inl ⟨by rfl, ?_⟩) ?_ ?_
              rotate_left
              · intro w'
                go_simp
                with_reducible rfl
              rotate_left
              · simp only [Act.put, List.setIfInBounds_toArray, List.set_cons_zero, List.set_cons_succ, i64_w, i32_w]
                rfl
              refine pure_ (i := 41) (N := some 66) (v := ?_) (a' := ?_) (Go.Proofs.YthphgkhmeobadabX.bA 53 3298534883327) rfl rfl (any_of HT_.out (by kernel_rfl)) (fun _ _ _ h => h) (Or.inl ⟨by rfl, ?_⟩) ?_ ?_
              rotate_left
              · intro w'
                go_simp
                with_reducible rfl
              rotate_left
              · simp only [Act.put, List.setIfInBounds_toArray, List.set_cons_zero, List.set_cons_succ, i64_w, i32_w]
                rfl
              refine pure_ (i := 44) (N := some 69) (v := ?_) (a' := ?_) (Go.Proofs.YthphgkhmeobadabX.bA 53 20890720927743) rfl rfl (any_of HT_.out (by kernel_rfl)) (fun _ _ _ h => h) (Or.inl ⟨by rfl, ?_⟩) ?_ ?_
              rotate_left
              · intro w'
                go_simp
                with_reducible rfl
              rotate_left
              · simp only [Act.put, List.setIfInBounds_toArray, List.set_cons_zero, List.set_cons_succ, i64_w, i32_w]
                rfl
              refine take_ (i := 40) (N := some 65) (v := ?_) (a' := ?_) (Go.Proofs.YthphgkhmeobadabX.bA 53 21990232555519) rfl rfl (take_ofW HT_.out HW_.out (by kernel_rfl)) (fun _ _ _ h => h) (Or.inl ⟨by rfl, ?_⟩) hHeld ?_ ?_
              rotate_left
              · rintro w' ⟨s0, s1, s2, s3, s4, s5⟩
                go_simp
                with_reducible rfl
              rotate_left
              · simp only [Act.put, List.setIfInBounds_toArray, List.set_cons_zero, List.set_cons_succ, i64_w, i32_w]
                rfl
              refine take_ (i := 42) (N := some 67) (v := ?_) (a' := ?_) (Go.Proofs.YthphgkhmeobadabX.bA 53 26388279066623) rfl rfl (take_ofW HT_.out HW_.out (by kernel_rfl)) (fun _ _ _ h => h) (Or.inl ⟨by rfl, ?_⟩) hHeld ?_ ?_
              rotate_left
              · rintro w' ⟨s0, s1, s2, s3, s4, s5⟩
                go_simp
                with_reducible rfl
              rotate_left
              · simp only [Act.put, List.setIfInBounds_toArray, List.set_cons_zero, List.set_cons_succ, i64_w, i32_w]
                rfl
              refine take_ (i := 45) (N := some 70) (v := ?_) (a' := ?_) (Go.Proofs.YthphgkhmeobadabX.bA 53 61572651155455) rfl rfl (take_ofW HT_.out HW_.out (by kernel_rfl)) (fun _ _ _ h => h) (Or.inl ⟨by rfl, ?_⟩) hHeld ?_ ?_
              rotate_left
              · rintro w' ⟨s0, s1, s2, s3, s4, s5⟩
                go_simp
                with_reducible rfl
              rotate_left
              · simp only [Act.put, List.setIfInBounds_toArray, List.set_cons_zero, List.set_cons_succ, i64_w, i32_w]
                rfl
              refine one_ (i := 43) (N := some 68) (Go.Proofs.YthphgkhmeobadabX.bA 53 70368744177663) rfl rfl (one_of HT_.out (by kernel_rfl)) (by decide) (fun K hK => ?_)
              refine goes_ Try.func63 (by kernel_rfl) rfl #[.agg #[.int .i64 a0_0, .slice (some ad) l0_1.length c0_1], .int .i64 ((rd_T85 l0_1 x).f2)] (by rfl) rfl rfl (by (try simp only [List.map_toArray, List.map_cons, List.map_nil]); first | done | rfl) ?_
              with_reducible refine (impl_Diagram_varAt.calls a0_0 _ _ l0_1 ((rd_T85 l0_1 x).f2) v2 _ ?side1 ?side2 HV2.out).mono ?_
              (case side1 => exact Kd.C_below HR.out HB.out)
              (case side2 => exact HC.out)
              rintro e wn ⟨rfl, hb⟩
              refine ⟨_, rfl, ?_⟩
              have n0_ := Aside0.mk ((hb.block _ (blk_lt BKF.out)).trans BKF.out)
              have n1_ := Aside0.mk ((hb.block _ (blk_lt BKD.out)).trans BKD.out)
              have n2_ := Aside0.mk (HM.out.below hb)
              have n3_ := Aside0.mk (below_step HB.out hb)
              clear BKF BKD HM HB
              have BKF := n0_
              have BKD := n1_
              have HM := n2_
              have HB := n3_
              clear n0_ n1_ n2_ n3_ hb
              refine hK.out _ _ ⟨(blk_cell BKD.out 0).trans rfl, (blk_cell BKD.out 1).trans rfl, (blk_cell BKF.out 0).trans rfl, (blk_cell BKF.out 1).trans rfl, (blk_cell BKF.out 2).trans rfl, ((HM.out.look Try.underlying89 HGD.out).trans (congrArg (fun b_ => Result.ok (Value.bool b_) _) HSV.out))⟩ (fun hHeld => ?_)
              clear hK K
              refine norm_ (a' := ?_) ?_ ?_
              rotate_left
              · show Act.put _ (some 68) _ = _
                simp only [Act.put, List.setIfInBounds_toArray, List.set_cons_zero, List.set_cons_succ, i64_w, i32_w]
                rfl
              refine pure_ (i := 46) (N := some 71) (v := ?_) (a' := ?_) (Go.Proofs.YthphgkhmeobadabX.bA 53 140737488355327) rfl rfl (any_of HT_.out (by kernel_rfl)) (fun _ _ _ h => h) (Or.inl ⟨by rfl, ?_⟩) ?_ ?_
              rotate_left
              · intro w'
                go_simp
                with_reducible rfl
              rotate_left
              · simp only [Act.put, List.setIfInBounds_toArray, List.set_cons_zero, List.set_cons_succ, i64_w, i32_w]
                rfl
              refine pure_ (i := 47) (N := some 72) (v := ?_) (a' := ?_) (Go.Proofs.YthphgkhmeobadabX.bA 53 281474976710655) rfl rfl (any_of HT_.out (by kernel_rfl)) (fun _ _ _ h => h) (Or.inl ⟨by rfl, ?_⟩) ?_ ?_
              rotate_left
              · intro w'
                go_simp
                with_reducible rfl
              rotate_left
              · simp only [Act.put, List.setIfInBounds_toArray, List.set_cons_zero, List.set_cons_succ, i64_w, i32_w]
                rfl
              refine pure_ (i := 48) (N := some 73) (v := ?_) (a' := ?_) (Go.Proofs.YthphgkhmeobadabX.bA 53 562949953421311) rfl rfl (any_of HT_.out (by kernel_rfl)) (fun _ _ _ h => h) (Or.inl ⟨by rfl, ?_⟩) ?_ ?_
              rotate_left
              · intro w'
                go_simp
                with_reducible rfl
              rotate_left
              · simp only [Act.put, List.setIfInBounds_toArray, List.set_cons_zero, List.set_cons_succ, i64_w, i32_w]
                rfl
              refine pure_ (i := 49) (N := some 74) (v := ?_) (a' := ?_) (Go.Proofs.YthphgkhmeobadabX.bA 53 1125899906842623) rfl rfl (any_of HT_.out (by kernel_rfl)) (fun _ _ _ h => h) (Or.inl ⟨by rfl, ?_⟩) ?_ ?_
              rotate_left
              · intro w'
                go_simp
                with_reducible rfl
              rotate_left
              · simp only [Act.put, List.setIfInBounds_toArray, List.set_cons_zero, List.set_cons_succ, i64_w, i32_w]
                rfl
              refine take_ (i := 50) (N := some 75) (v := ?_) (a' := ?_) (Go.Proofs.YthphgkhmeobadabX.bA 53 2251799813685247) rfl rfl (take_ofW HT_.out HW_.out (by kernel_rfl)) (fun _ _ _ h => h) (Or.inl ⟨by rfl, ?_⟩) hHeld ?_ ?_
              rotate_left
              · rintro w' ⟨s0, s1, s2, s3, s4, s5⟩
                go_simp
                with_reducible rfl
              rotate_left
              · simp only [Act.put, List.setIfInBounds_toArray, List.set_cons_zero, List.set_cons_succ, i64_w, i32_w]
                rfl
              refine take_ (i := 51) (N := some 76) (v := ?_) (a' := ?_) (Go.Proofs.YthphgkhmeobadabX.bA 53 4503599627370495) rfl rfl (take_ofW HT_.out HW_.out (by kernel_rfl)) (fun _ _ _ h => h) (Or.inl ⟨by rfl, ?_⟩) hHeld ?_ ?_
              rotate_left
              · rintro w' ⟨s0, s1, s2, s3, s4, s5⟩
                go_simp
                with_reducible rfl
              rotate_left
              · simp only [Act.put, List.setIfInBounds_toArray, List.set_cons_zero, List.set_cons_succ, i64_w, i32_w]
                rfl
              refine pure_ (i := 52) (N := some 77) (v := ?_) (a' := ?_) (Go.Proofs.YthphgkhmeobadabX.bA 53 9007199254740991) rfl rfl (any_of HT_.out (by kernel_rfl)) (fun _ _ _ h => h) (Or.inl ⟨by rfl, ?_⟩) ?_ ?_
              rotate_left
              · intro w'
                go_simp
                with_reducible rfl
              rotate_left
              · simp only [Act.put, List.setIfInBounds_toArray, List.set_cons_zero, List.set_cons_succ, i64_w, i32_w]
                rfl
              refine done_ (done_of HT_.out (by kernel_rfl)) ?_
              have hcf0 := (blk_cell BKF.out 0).trans rfl
              have hcf1 := (blk_cell BKF.out 1).trans rfl
              have hcf2 := (blk_cell BKF.out 2).trans rfl
              have hxm : x.toNat < maxLen := by have := HLL.out; unfold maxLen; omega
              have hw : wrap64 (x + 1) = x + 1 := by unfold wrap64; omega
              go_wp2_with (first | (at_mapUpdate; refine Go.Proofs.YthphgkhmeobadabX.wpList_mapF_store _ rfl (.tmp 78) (.tmp 79) (.const (.bool true)) 89 rfl Try.underlying89 HM.out hxm rfl (rd_T85 l0_1 x) true rfl rfl HGD.out trivial ?_; intro w9 hm9 hg9; have HM9 := Aside0.mk hm9; have HG9 := Aside0.mk hg9; clear hm9 hg9))
              go_roundg (gk - 1)
              case measure => omega
              case rel =>
                have hr := HGO.out
                simp only [if_true] at hr
                have e1 : (x + 1).toNat = x.toNat + 1 := by omega
                have e2 : l0_1.take (x.toNat + 1) = l0_1.take x.toNat ++ [(rd_T85 l0_1 x)] := by rw [List.take_succ_eq_append_getElem (by omega)]; unfold rd_T85; rw [List.getD_eq_getElem?_getD, List.getElem?_eq_getElem (by omega)]; rfl
                refine ⟨x + 1, (by (try rw [hw]); rfl), ⟨by omega, by omega, by omega⟩, ⟨by rw [e1]; exact hr⟩, ⟨?_⟩, ⟨?_⟩, ⟨HB.out.grown HG9.out HB.out.size (fun k hk => by injection hk with hk; have := GM.out; omega)⟩⟩
                · rw [e1]
                  refine HM9.out _ ?_ ?_
                  · unfold impl_DiagramValid.F
                    rw [e2, List.any_append]
                    simp [impl_DiagramValid.eqS]
                  · intro y _ hy
                    unfold impl_DiagramValid.F
                    rw [e2, List.any_append]
                    have : impl_DiagramValid.eqS y (rd_T85 l0_1 x) = false := by unfold impl_DiagramValid.eqS; refine decide_eq_false (fun h => hy ?_); obtain ⟨z0, z1, z2⟩ := h; cases y; cases hq : (rd_T85 l0_1 x); simp_all
                    simp [this]
                · refine (HG9.out.block gd (blk_lt BKD.out) ?_).trans BKD.out
                  intro e_
                  injection e_ with e_
                  obtain ⟨es, cl, hb⟩ := HM.out.block
                  rw [← e_, BKD.out] at hb
                  cases hb
        · have c3b0 : decide (x < (l0_1.length : Int)) = false := decide_eq_false c3
          have hg := HG.out
          rw [show l0_1.length - x.toNat = 0 by omega] at hg
          unfold impl_DiagramValid.go at hg
          obtain rfl := Option.some.inj hg
          clear hg HG H
          go_wp2
          go_ret
          exact ⟨rfl, HB.out⟩

end Go.Proofs.Ythphgkhmeobadab.XFnExactDiagramCount
