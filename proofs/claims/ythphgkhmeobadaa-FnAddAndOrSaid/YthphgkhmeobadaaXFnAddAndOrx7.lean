/- Printed by a program of this session out of the translation: the Go functions that a law uses as plain Lean functions, with the proofs of their calls, or the law's row.
Conditions: those that each theorem states. -/
import Derived.Test.YthphgkhmeobadaaXFnAddAndOrx0
import Derived.Test.YthphgkhmeobadaaXFnAddAndOrx3
import Derived.Test.YthphgkhmeobadaaXFnAddAndOrx4
import Derived.Test.YthphgkhmeobadaaXFnAddAndOrx5
import Derived.Test.YthphgkhmeobadaaXFnAddAndOrx6
namespace Go.Proofs.Ythphgkhmeobadaa.XFnAddAndOr
open Go.RowKit Go.Proofs.YthphgkhmeobadaaW.PrintWords Go.Proofs.YthphgkhmeobadaaW.PrintLast Go.Proofs.YthphgkhmeobadaaW.PrintMore
attribute [local go_sem] max2_int min2_int max_two min_two max_three min_three max_four min_four   -- for this text's walks alone
set_option linter.unusedVariables false
set_option linter.unusedSimpArgs false

/-! ### impl_AddAnd: function 9 (by hand) -/
def impl_AddAnd.good (l : List S57) (a b : Int) : Bool := l.all (fun y => (Lit.int .i64 y.f0).wf && (Lit.int .i64 y.f1).wf) && (Lit.int .i64 a).wf && (Lit.int .i64 b).wf && decide (l.length ≤ 600)
def impl_AddAnd.f (k : Nat) (a0_0 : Int) (l0_1 : List (S57)) (a1 : Int) (a2 : Int) : Option (Int × (List (S57)) × Int) := (impl_CircuitValid.f k a0_0 l0_1).bind fun t => if t = true then ((impl_Circuit_isEdge.f a0_0 l0_1 a1).bind fun t1 => if t1 = true then ((impl_Circuit_isEdge.f a0_0 l0_1 a2).bind fun t2 => if t2 = true then (if impl_AddAnd.good l0_1 a1 a2 = true then some (if (impl_builder_and.f a0_0 l0_1 a1 a2).2.2 = true then (0, [], -1) else (a0_0, (impl_builder_and.f a0_0 l0_1 a1 a2).2.1, (impl_builder_and.f a0_0 l0_1 a1 a2).1)) else none) else some (0, [], -1)) else some (0, [], -1)) else some (0, [], -1)
theorem impl_AddAnd.mono : ∀ a0 a1 a2 a3 k, LeO (impl_AddAnd.f k a0 a1 a2 a3) (impl_AddAnd.f (k + 1) a0 a1 a2 a3) := by
 intro a0 a1 a2 a3 k
 unfold impl_AddAnd.f
 exact LeO.bind (impl_CircuitValid.mono _ _ _) (fun _ => LeO.refl _)
set_option maxHeartbeats 40000000 in
set_option maxRecDepth 100000 in
theorem impl_AddAnd.calls_a (k : Nat) (a0_0 : Int) (A0_1 : Option Addr) (c0_1 : Nat) (l0_1 : List (S57)) (a1 : Int) (a2 : Int) (w : World) (hr0_1 : Kd.C k57 w A0_1 l0_1.length l0_1) (hc0_1 : l0_1.length ≤ c0_1) (ht0 : impl_CircuitValid.f k a0_0 l0_1 = some false) :
  Calls Try.prog 9 #[.agg #[.int .i64 a0_0, .slice A0_1 l0_1.length c0_1], .int .i64 a1, .int .i64 a2] w fun e w' => ∃ v1_ : Value, e = .returned (.tuple #[.agg #[.int .i64 0, v1_], .int .i64 (-1)]) ∧ Kd.R k57 57 w' w.heap.size (fun _ => True) v1_ ([]) ∧ Below w.heap.size w w' := by
 have hu := Try.underlying28
 have HR := Yj hr0_1
 have HC := Yj hc0_1
 have HB := Yj (Below.refl w.heap.size w)
 clear hr0_1 hc0_1
 have HT0 := Yj ht0
 clear ht0
 go_enter Try.func9, Try.ntmps9
 go_wp2_with (first | ((with_reducible refine gate_dst (N := 3) rfl ?_); refine box_event ?hg (N := 3) ?hd (cs := #[.int .i64 a0_0, .slice A0_1 l0_1.length c0_1]) (t := 28) ?hr ?_; (case hd => rfl); (case hg => rfl); (case hr => first | (go_simp; done) | (go_simp; rfl)); intro gd hgd w5 hbox hb; have BKD := Yj hbox; have n2_ := Yj (below_step HB.out hb); clear HB; have HB := n2_; clear n2_ hbox hb hgd) | ((with_reducible refine gate_dst (N := 6) rfl ?_); refine box_event ?hg (N := 6) ?hd (cs := #[.int .i64 0, .slice none 0 0]) (t := 28) ?hr ?_; (case hd => rfl); (case hg => rfl); (case hr => first | (go_simp; done) | (go_simp; rfl)); intro gr hgr w6 hbox hb; have GR := Yj (show w.heap.size ≤ gr by rw [hgr]; exact HB.out.size); have BKR := Yj hbox; have n0_ := Yj ((hb.block _ (blk_lt BKD.out)).trans BKD.out); have n2_ := Yj (below_step HB.out hb); clear BKD HB; have BKD := n0_; have HB := n2_; clear n0_ n2_ hbox hb hgr; have hcd0 := (Yd BKD.out 0).trans rfl; have hcd1 := (Yd BKD.out 1).trans rfl; have hcr0 := (Yd BKR.out 0).trans rfl; have hcr1 := (Yd BKR.out 1).trans rfl; have hfr0 := Ye BKR.out 0; have hfr1 := Ye BKR.out 1) | (go_at_call 23; with_reducible refine (impl_CircuitValid.calls k a0_0 A0_1 c0_1 l0_1 false _ (Kd.C_below HR.out HB.out) HC.out HT0.out).mono ?_; rintro e wa ⟨rfl, hb⟩; have n0_ := Yj ((hb.block _ (blk_lt BKD.out)).trans BKD.out); have n1_ := Yj ((hb.block _ (blk_lt BKR.out)).trans BKR.out); have n2_ := Yj (below_step HB.out hb); clear BKD BKR HB; have BKD := n0_; have BKR := n1_; have HB := n2_; clear n0_ n1_ n2_; have hcd0 := (Yd BKD.out 0).trans rfl; have hcd1 := (Yd BKD.out 1).trans rfl; have hcr0 := (Yd BKR.out 0).trans rfl; have hcr1 := (Yd BKR.out 1).trans rfl; have hfr0 := Ye BKR.out 0; have hfr1 := Ye BKR.out 1; clear hb))
 refine bodyPost_ret (results_ct rfl _ _ gr 28 #[.int .i64 0, .slice none 0 0] (0, 0) _ rfl (by refine blk_put (cs := #[.int .i64 0, .slice none 0 0]) ?_ 1 _ rfl; refine blk_put (cs := #[.int .i64 0, .slice none 0 0]) ?_ 0 _ rfl; exact BKR.out) Try.underlying28 rfl (by kernel_rfl)) rfl ?_
 exact ⟨_, rfl, Kd.R_nil _ _ _ _ _, Yi (Yi HB.out GR.out) GR.out⟩
set_option maxHeartbeats 40000000 in
set_option maxRecDepth 100000 in
theorem impl_AddAnd.calls_b (k : Nat) (a0_0 : Int) (A0_1 : Option Addr) (c0_1 : Nat) (l0_1 : List (S57)) (a1 : Int) (a2 : Int) (w : World) (hr0_1 : Kd.C k57 w A0_1 l0_1.length l0_1) (hc0_1 : l0_1.length ≤ c0_1) (ht0 : impl_CircuitValid.f k a0_0 l0_1 = some true) (ht1 : impl_Circuit_isEdge.f a0_0 l0_1 a1 = some false) :
  Calls Try.prog 9 #[.agg #[.int .i64 a0_0, .slice A0_1 l0_1.length c0_1], .int .i64 a1, .int .i64 a2] w fun e w' => ∃ v1_ : Value, e = .returned (.tuple #[.agg #[.int .i64 0, v1_], .int .i64 (-1)]) ∧ Kd.R k57 57 w' w.heap.size (fun _ => True) v1_ ([]) ∧ Below w.heap.size w w' := by
 have hu := Try.underlying28
 have HR := Yj hr0_1
 have HC := Yj hc0_1
 have HB := Yj (Below.refl w.heap.size w)
 clear hr0_1 hc0_1
 have HT0 := Yj ht0
 clear ht0
 have HT1 := Yj ht1
 clear ht1
 go_enter Try.func9, Try.ntmps9
 go_wp2_with (first | ((with_reducible refine gate_dst (N := 3) rfl ?_); refine box_event ?hg (N := 3) ?hd (cs := #[.int .i64 a0_0, .slice A0_1 l0_1.length c0_1]) (t := 28) ?hr ?_; (case hd => rfl); (case hg => rfl); (case hr => first | (go_simp; done) | (go_simp; rfl)); intro gd hgd w5 hbox hb; have BKD := Yj hbox; have n2_ := Yj (below_step HB.out hb); clear HB; have HB := n2_; clear n2_ hbox hb hgd) | ((with_reducible refine gate_dst (N := 6) rfl ?_); refine box_event ?hg (N := 6) ?hd (cs := #[.int .i64 0, .slice none 0 0]) (t := 28) ?hr ?_; (case hd => rfl); (case hg => rfl); (case hr => first | (go_simp; done) | (go_simp; rfl)); intro gr hgr w6 hbox hb; have GR := Yj (show w.heap.size ≤ gr by rw [hgr]; exact HB.out.size); have BKR := Yj hbox; have n0_ := Yj ((hb.block _ (blk_lt BKD.out)).trans BKD.out); have n2_ := Yj (below_step HB.out hb); clear BKD HB; have BKD := n0_; have HB := n2_; clear n0_ n2_ hbox hb hgr; have hcd0 := (Yd BKD.out 0).trans rfl; have hcd1 := (Yd BKD.out 1).trans rfl; have hcr0 := (Yd BKR.out 0).trans rfl; have hcr1 := (Yd BKR.out 1).trans rfl; have hfr0 := Ye BKR.out 0; have hfr1 := Ye BKR.out 1) | (go_at_call 23; with_reducible refine (impl_CircuitValid.calls k a0_0 A0_1 c0_1 l0_1 true _ (Kd.C_below HR.out HB.out) HC.out HT0.out).mono ?_; rintro e wa ⟨rfl, hb⟩; have n0_ := Yj ((hb.block _ (blk_lt BKD.out)).trans BKD.out); have n1_ := Yj ((hb.block _ (blk_lt BKR.out)).trans BKR.out); have n2_ := Yj (below_step HB.out hb); clear BKD BKR HB; have BKD := n0_; have BKR := n1_; have HB := n2_; clear n0_ n1_ n2_; have hcd0 := (Yd BKD.out 0).trans rfl; have hcd1 := (Yd BKD.out 1).trans rfl; have hcr0 := (Yd BKR.out 0).trans rfl; have hcr1 := (Yd BKR.out 1).trans rfl; have hfr0 := Ye BKR.out 0; have hfr1 := Ye BKR.out 1; clear hb) | (go_at_call 24; with_reducible refine (impl_Circuit_isEdge.calls a0_0 A0_1 c0_1 l0_1 a1 false _ (Kd.C_below HR.out HB.out) HC.out HT1.out).mono ?_; rintro e wb1 ⟨rfl, hb'⟩; have hb := (by first | exact hb' | exact hb'.below | exact Drawn0.below hb' : Below _ _ _); have n0_ := Yj ((hb.block _ (blk_lt BKD.out)).trans BKD.out); have n1_ := Yj ((hb.block _ (blk_lt BKR.out)).trans BKR.out); have n2_ := Yj (below_step HB.out hb); clear BKD BKR HB; have BKD := n0_; have BKR := n1_; have HB := n2_; clear n0_ n1_ n2_; have hcd0 := (Yd BKD.out 0).trans rfl; have hcd1 := (Yd BKD.out 1).trans rfl; have hcr0 := (Yd BKR.out 0).trans rfl; have hcr1 := (Yd BKR.out 1).trans rfl; have hfr0 := Ye BKR.out 0; have hfr1 := Ye BKR.out 1; clear hb hb'))
 refine bodyPost_ret (results_ct rfl _ _ gr 28 #[.int .i64 0, .slice none 0 0] (0, 0) _ rfl (by refine blk_put (cs := #[.int .i64 0, .slice none 0 0]) ?_ 1 _ rfl; refine blk_put (cs := #[.int .i64 0, .slice none 0 0]) ?_ 0 _ rfl; exact BKR.out) Try.underlying28 rfl (by kernel_rfl)) rfl ?_
 exact ⟨_, rfl, Kd.R_nil _ _ _ _ _, Yi (Yi HB.out GR.out) GR.out⟩
set_option maxHeartbeats 40000000 in
set_option maxRecDepth 100000 in
theorem impl_AddAnd.calls_c (k : Nat) (a0_0 : Int) (A0_1 : Option Addr) (c0_1 : Nat) (l0_1 : List (S57)) (a1 : Int) (a2 : Int) (w : World) (hr0_1 : Kd.C k57 w A0_1 l0_1.length l0_1) (hc0_1 : l0_1.length ≤ c0_1) (ht0 : impl_CircuitValid.f k a0_0 l0_1 = some true) (ht1 : impl_Circuit_isEdge.f a0_0 l0_1 a1 = some true) (ht2 : impl_Circuit_isEdge.f a0_0 l0_1 a2 = some false) :
  Calls Try.prog 9 #[.agg #[.int .i64 a0_0, .slice A0_1 l0_1.length c0_1], .int .i64 a1, .int .i64 a2] w fun e w' => ∃ v1_ : Value, e = .returned (.tuple #[.agg #[.int .i64 0, v1_], .int .i64 (-1)]) ∧ Kd.R k57 57 w' w.heap.size (fun _ => True) v1_ ([]) ∧ Below w.heap.size w w' := by
 have hu := Try.underlying28
 have HR := Yj hr0_1
 have HC := Yj hc0_1
 have HB := Yj (Below.refl w.heap.size w)
 clear hr0_1 hc0_1
 have HT0 := Yj ht0
 clear ht0
 have HT1 := Yj ht1
 clear ht1
 have HT2 := Yj ht2
 clear ht2
 go_enter Try.func9, Try.ntmps9
 go_wp2_with (first | ((with_reducible refine gate_dst (N := 3) rfl ?_); refine box_event ?hg (N := 3) ?hd (cs := #[.int .i64 a0_0, .slice A0_1 l0_1.length c0_1]) (t := 28) ?hr ?_; (case hd => rfl); (case hg => rfl); (case hr => first | (go_simp; done) | (go_simp; rfl)); intro gd hgd w5 hbox hb; have BKD := Yj hbox; have n2_ := Yj (below_step HB.out hb); clear HB; have HB := n2_; clear n2_ hbox hb hgd) | ((with_reducible refine gate_dst (N := 6) rfl ?_); refine box_event ?hg (N := 6) ?hd (cs := #[.int .i64 0, .slice none 0 0]) (t := 28) ?hr ?_; (case hd => rfl); (case hg => rfl); (case hr => first | (go_simp; done) | (go_simp; rfl)); intro gr hgr w6 hbox hb; have GR := Yj (show w.heap.size ≤ gr by rw [hgr]; exact HB.out.size); have BKR := Yj hbox; have n0_ := Yj ((hb.block _ (blk_lt BKD.out)).trans BKD.out); have n2_ := Yj (below_step HB.out hb); clear BKD HB; have BKD := n0_; have HB := n2_; clear n0_ n2_ hbox hb hgr; have hcd0 := (Yd BKD.out 0).trans rfl; have hcd1 := (Yd BKD.out 1).trans rfl; have hcr0 := (Yd BKR.out 0).trans rfl; have hcr1 := (Yd BKR.out 1).trans rfl; have hfr0 := Ye BKR.out 0; have hfr1 := Ye BKR.out 1) | (go_at_call 23; with_reducible refine (impl_CircuitValid.calls k a0_0 A0_1 c0_1 l0_1 true _ (Kd.C_below HR.out HB.out) HC.out HT0.out).mono ?_; rintro e wa ⟨rfl, hb⟩; have n0_ := Yj ((hb.block _ (blk_lt BKD.out)).trans BKD.out); have n1_ := Yj ((hb.block _ (blk_lt BKR.out)).trans BKR.out); have n2_ := Yj (below_step HB.out hb); clear BKD BKR HB; have BKD := n0_; have BKR := n1_; have HB := n2_; clear n0_ n1_ n2_; have hcd0 := (Yd BKD.out 0).trans rfl; have hcd1 := (Yd BKD.out 1).trans rfl; have hcr0 := (Yd BKR.out 0).trans rfl; have hcr1 := (Yd BKR.out 1).trans rfl; have hfr0 := Ye BKR.out 0; have hfr1 := Ye BKR.out 1; clear hb) | (go_at_call 24; with_reducible refine (impl_Circuit_isEdge.calls a0_0 A0_1 c0_1 l0_1 a1 true _ (Kd.C_below HR.out HB.out) HC.out HT1.out).mono ?_; rintro e wb1 ⟨rfl, hb'⟩; have hb := (by first | exact hb' | exact hb'.below | exact Drawn0.below hb' : Below _ _ _); have n0_ := Yj ((hb.block _ (blk_lt BKD.out)).trans BKD.out); have n1_ := Yj ((hb.block _ (blk_lt BKR.out)).trans BKR.out); have n2_ := Yj (below_step HB.out hb); clear BKD BKR HB; have BKD := n0_; have BKR := n1_; have HB := n2_; clear n0_ n1_ n2_; have hcd0 := (Yd BKD.out 0).trans rfl; have hcd1 := (Yd BKD.out 1).trans rfl; have hcr0 := (Yd BKR.out 0).trans rfl; have hcr1 := (Yd BKR.out 1).trans rfl; have hfr0 := Ye BKR.out 0; have hfr1 := Ye BKR.out 1; clear hb hb') | (go_at_call 24; with_reducible refine (impl_Circuit_isEdge.calls a0_0 A0_1 c0_1 l0_1 a2 false _ (Kd.C_below HR.out HB.out) HC.out HT2.out).mono ?_; rintro e wb2 ⟨rfl, hb'⟩; have hb := (by first | exact hb' | exact hb'.below | exact Drawn0.below hb' : Below _ _ _); have n0_ := Yj ((hb.block _ (blk_lt BKD.out)).trans BKD.out); have n1_ := Yj ((hb.block _ (blk_lt BKR.out)).trans BKR.out); have n2_ := Yj (below_step HB.out hb); clear BKD BKR HB; have BKD := n0_; have BKR := n1_; have HB := n2_; clear n0_ n1_ n2_; have hcd0 := (Yd BKD.out 0).trans rfl; have hcd1 := (Yd BKD.out 1).trans rfl; have hcr0 := (Yd BKR.out 0).trans rfl; have hcr1 := (Yd BKR.out 1).trans rfl; have hfr0 := Ye BKR.out 0; have hfr1 := Ye BKR.out 1; clear hb hb'))
 refine bodyPost_ret (results_ct rfl _ _ gr 28 #[.int .i64 0, .slice none 0 0] (0, 0) _ rfl (by refine blk_put (cs := #[.int .i64 0, .slice none 0 0]) ?_ 1 _ rfl; refine blk_put (cs := #[.int .i64 0, .slice none 0 0]) ?_ 0 _ rfl; exact BKR.out) Try.underlying28 rfl (by kernel_rfl)) rfl ?_
 exact ⟨_, rfl, Kd.R_nil _ _ _ _ _, Yi (Yi HB.out GR.out) GR.out⟩
set_option maxHeartbeats 40000000 in
set_option maxRecDepth 100000 in
theorem impl_AddAnd.calls_d (k : Nat) (a0_0 : Int) (A0_1 : Option Addr) (c0_1 : Nat) (l0_1 : List (S57)) (a1 : Int) (a2 : Int) (w : World) (hr0_1 : Kd.C k57 w A0_1 l0_1.length l0_1) (hc0_1 : l0_1.length ≤ c0_1) (ht0 : impl_CircuitValid.f k a0_0 l0_1 = some true) (ht1 : impl_Circuit_isEdge.f a0_0 l0_1 a1 = some true) (ht2 : impl_Circuit_isEdge.f a0_0 l0_1 a2 = some true) (hgd : ∀ y ∈ l0_1, impl_building.key.good y) (hw1 : (Lit.int .i64 a1).wf = true) (hw2 : (Lit.int .i64 a2).wf = true) (hlen : l0_1.length ≤ 600) (hf : (impl_builder_and.f a0_0 l0_1 a1 a2).2.2 = true) :
  Calls Try.prog 9 #[.agg #[.int .i64 a0_0, .slice A0_1 l0_1.length c0_1], .int .i64 a1, .int .i64 a2] w fun e w' => ∃ v1_ : Value, e = .returned (.tuple #[.agg #[.int .i64 0, v1_], .int .i64 (-1)]) ∧ Kd.R k57 57 w' w.heap.size (fun _ => True) v1_ ([]) ∧ Below w.heap.size w w' := by
 have hu := Try.underlying28
 have HR := Yj hr0_1
 have HC := Yj hc0_1
 have HB := Yj (Below.refl w.heap.size w)
 clear hr0_1 hc0_1
 have HT0 := Yj ht0
 clear ht0
 have HT1 := Yj ht1
 clear ht1
 have HT2 := Yj ht2
 clear ht2
 have HGG := Yj hgd
 have HW1 := Yj hw1
 have HW2 := Yj hw2
 have HLN := Yj hlen
 have HF := Yj hf
 have HL2 := Yj (impl_builder_and.f_len a0_0 l0_1 a1 a2 hlen)
 clear hgd hw1 hw2 hf
 go_enter Try.func9, Try.ntmps9
 go_wp2_with (first | ((with_reducible refine gate_dst (N := 3) rfl ?_); refine box_event ?hg (N := 3) ?hd (cs := #[.int .i64 a0_0, .slice A0_1 l0_1.length c0_1]) (t := 28) ?hr ?_; (case hd => rfl); (case hg => rfl); (case hr => first | (go_simp; done) | (go_simp; rfl)); intro gd hgd w5 hbox hb; have BKD := Yj hbox; have n2_ := Yj (below_step HB.out hb); clear HB; have HB := n2_; clear n2_ hbox hb hgd) | ((with_reducible refine gate_dst (N := 6) rfl ?_); refine box_event ?hg (N := 6) ?hd (cs := #[.int .i64 0, .slice none 0 0]) (t := 28) ?hr ?_; (case hd => rfl); (case hg => rfl); (case hr => first | (go_simp; done) | (go_simp; rfl)); intro gr hgr w6 hbox hb; have GR := Yj (show w.heap.size ≤ gr by rw [hgr]; exact HB.out.size); have BKR := Yj hbox; have n0_ := Yj ((hb.block _ (blk_lt BKD.out)).trans BKD.out); have n2_ := Yj (below_step HB.out hb); clear BKD HB; have BKD := n0_; have HB := n2_; clear n0_ n2_ hbox hb hgr; have hcd0 := (Yd BKD.out 0).trans rfl; have hcd1 := (Yd BKD.out 1).trans rfl; have hcr0 := (Yd BKR.out 0).trans rfl; have hcr1 := (Yd BKR.out 1).trans rfl; have hfr0 := Ye BKR.out 0; have hfr1 := Ye BKR.out 1) | (go_at_call 23; with_reducible refine (impl_CircuitValid.calls k a0_0 A0_1 c0_1 l0_1 true _ (Kd.C_below HR.out HB.out) HC.out HT0.out).mono ?_; rintro e wa ⟨rfl, hb⟩; have n0_ := Yj ((hb.block _ (blk_lt BKD.out)).trans BKD.out); have n1_ := Yj ((hb.block _ (blk_lt BKR.out)).trans BKR.out); have n2_ := Yj (below_step HB.out hb); clear BKD BKR HB; have BKD := n0_; have BKR := n1_; have HB := n2_; clear n0_ n1_ n2_; have hcd0 := (Yd BKD.out 0).trans rfl; have hcd1 := (Yd BKD.out 1).trans rfl; have hcr0 := (Yd BKR.out 0).trans rfl; have hcr1 := (Yd BKR.out 1).trans rfl; have hfr0 := Ye BKR.out 0; have hfr1 := Ye BKR.out 1; clear hb) | (go_at_call 24; with_reducible refine (impl_Circuit_isEdge.calls a0_0 A0_1 c0_1 l0_1 a1 true _ (Kd.C_below HR.out HB.out) HC.out HT1.out).mono ?_; rintro e wb1 ⟨rfl, hb'⟩; have hb := (by first | exact hb' | exact hb'.below | exact Drawn0.below hb' : Below _ _ _); have n0_ := Yj ((hb.block _ (blk_lt BKD.out)).trans BKD.out); have n1_ := Yj ((hb.block _ (blk_lt BKR.out)).trans BKR.out); have n2_ := Yj (below_step HB.out hb); clear BKD BKR HB; have BKD := n0_; have BKR := n1_; have HB := n2_; clear n0_ n1_ n2_; have hcd0 := (Yd BKD.out 0).trans rfl; have hcd1 := (Yd BKD.out 1).trans rfl; have hcr0 := (Yd BKR.out 0).trans rfl; have hcr1 := (Yd BKR.out 1).trans rfl; have hfr0 := Ye BKR.out 0; have hfr1 := Ye BKR.out 1; clear hb hb') | (go_at_call 24; with_reducible refine (impl_Circuit_isEdge.calls a0_0 A0_1 c0_1 l0_1 a2 true _ (Kd.C_below HR.out HB.out) HC.out HT2.out).mono ?_; rintro e wb2 ⟨rfl, hb'⟩; have hb := (by first | exact hb' | exact hb'.below | exact Drawn0.below hb' : Below _ _ _); have n0_ := Yj ((hb.block _ (blk_lt BKD.out)).trans BKD.out); have n1_ := Yj ((hb.block _ (blk_lt BKR.out)).trans BKR.out); have n2_ := Yj (below_step HB.out hb); clear BKD BKR HB; have BKD := n0_; have BKR := n1_; have HB := n2_; clear n0_ n1_ n2_; have hcd0 := (Yd BKD.out 0).trans rfl; have hcd1 := (Yd BKD.out 1).trans rfl; have hcr0 := (Yd BKR.out 0).trans rfl; have hcr1 := (Yd BKR.out 1).trans rfl; have hfr0 := Ye BKR.out 0; have hfr1 := Ye BKR.out 1; clear hb hb') | (go_at_call 25; with_reducible refine (impl_building.calls a0_0 A0_1 c0_1 l0_1 _ (Kd.C_below HR.out HB.out) HC.out HGG.out HLN.out).mono ?_; rintro e wc ⟨gb, rfl, bm, A1, c1, hbk, ho, hm, hgb, hbm, hb⟩; have BKB := Yj hbk; have HO := Yj ho; have HM := Yj hm; have GB := Yj hgb; have GM := Yj hbm; have HBB := Yj hb; clear hbk ho hm hgb hbm hb) | (go_at_call 27; with_reducible refine (impl_builder_and.calls a0_0 l0_1 a1 a2 gb bm A1 c1 _ _ HBB.out BKB.out HO.out HM.out GB.out GM.out HLN.out HW1.out HW2.out).mono ?_; rintro e wd ⟨rfl, A2, c2, hbk, ho, hb⟩; rw [HF.out] at hbk; clear BKB HO HM HBB; have BKB := Yj hbk; have HO := Yj ho; have HBB := Yj hb; clear hbk ho hb) | (go_at_call 26; with_reducible refine (impl_builder_done.calls_t a0_0 (impl_builder_and.f a0_0 l0_1 a1 a2).2.1 (impl_builder_and.f a0_0 l0_1 a1 a2).1 gb bm A2 c2 _ _ HBB.out BKB.out HO.out GB.out HL2.out).mono ?_; rintro e we ⟨v1, rfl, ho, hb⟩; obtain ⟨A3, c3, rfl⟩ := Kd.R_slice ho; have BKE := Yj ((hb.block _ (blk_lt BKR.out)).trans BKR.out); have HOE := Yj (Kd.R_newB ho BKR.out); have HBE := Yj (below_step HB.out hb); clear ho hb; have hce0 := (Yd BKE.out 0).trans rfl; have hce1 := (Yd BKE.out 1).trans rfl; have hfe0 := Ye BKE.out 0; have hfe1 := Ye BKE.out 1))
 refine bodyPost_ret (results_ct rfl _ _ gr 28 #[.int .i64 0, .slice A3 ([] : List S57).length c3] (0, 0) _ rfl (by refine blk_put (cs := #[.int .i64 0, .slice none 0 0]) ?_ 1 _ rfl; refine blk_put (cs := #[.int .i64 0, .slice none 0 0]) ?_ 0 _ rfl; exact BKE.out) Try.underlying28 rfl (by kernel_rfl)) rfl ?_
 exact ⟨_, rfl, Kd.R_lower (Kd.R_mono (Kd.R_far (p := ⟨gr, 1, none⟩) (Kd.R_far (p := ⟨gr, 0, none⟩) HOE.out (fun _ hk => hk.2) _) (fun _ hk => hk.2) _) (fun _ _ => trivial)) HB.out.size, Yi (Yi HBE.out GR.out) GR.out⟩
set_option maxHeartbeats 40000000 in
set_option maxRecDepth 100000 in
theorem impl_AddAnd.calls_e (k : Nat) (a0_0 : Int) (A0_1 : Option Addr) (c0_1 : Nat) (l0_1 : List (S57)) (a1 : Int) (a2 : Int) (w : World) (hr0_1 : Kd.C k57 w A0_1 l0_1.length l0_1) (hc0_1 : l0_1.length ≤ c0_1) (ht0 : impl_CircuitValid.f k a0_0 l0_1 = some true) (ht1 : impl_Circuit_isEdge.f a0_0 l0_1 a1 = some true) (ht2 : impl_Circuit_isEdge.f a0_0 l0_1 a2 = some true) (hgd : ∀ y ∈ l0_1, impl_building.key.good y) (hw1 : (Lit.int .i64 a1).wf = true) (hw2 : (Lit.int .i64 a2).wf = true) (hlen : l0_1.length ≤ 600) (hf : (impl_builder_and.f a0_0 l0_1 a1 a2).2.2 = false) :
  Calls Try.prog 9 #[.agg #[.int .i64 a0_0, .slice A0_1 l0_1.length c0_1], .int .i64 a1, .int .i64 a2] w fun e w' => ∃ v1_ : Value, e = .returned (.tuple #[.agg #[.int .i64 a0_0, v1_], .int .i64 ((impl_builder_and.f a0_0 l0_1 a1 a2).1)]) ∧ Kd.R k57 57 w' w.heap.size (fun _ => True) v1_ ((impl_builder_and.f a0_0 l0_1 a1 a2).2.1) ∧ Below w.heap.size w w' := by
 have hu := Try.underlying28
 have HR := Yj hr0_1
 have HC := Yj hc0_1
 have HB := Yj (Below.refl w.heap.size w)
 clear hr0_1 hc0_1
 have HT0 := Yj ht0
 clear ht0
 have HT1 := Yj ht1
 clear ht1
 have HT2 := Yj ht2
 clear ht2
 have HGG := Yj hgd
 have HW1 := Yj hw1
 have HW2 := Yj hw2
 have HLN := Yj hlen
 have HF := Yj hf
 have HL2 := Yj (impl_builder_and.f_len a0_0 l0_1 a1 a2 hlen)
 clear hgd hw1 hw2 hf
 go_enter Try.func9, Try.ntmps9
 go_wp2_with (first | ((with_reducible refine gate_dst (N := 3) rfl ?_); refine box_event ?hg (N := 3) ?hd (cs := #[.int .i64 a0_0, .slice A0_1 l0_1.length c0_1]) (t := 28) ?hr ?_; (case hd => rfl); (case hg => rfl); (case hr => first | (go_simp; done) | (go_simp; rfl)); intro gd hgd w5 hbox hb; have BKD := Yj hbox; have n2_ := Yj (below_step HB.out hb); clear HB; have HB := n2_; clear n2_ hbox hb hgd) | ((with_reducible refine gate_dst (N := 6) rfl ?_); refine box_event ?hg (N := 6) ?hd (cs := #[.int .i64 0, .slice none 0 0]) (t := 28) ?hr ?_; (case hd => rfl); (case hg => rfl); (case hr => first | (go_simp; done) | (go_simp; rfl)); intro gr hgr w6 hbox hb; have GR := Yj (show w.heap.size ≤ gr by rw [hgr]; exact HB.out.size); have BKR := Yj hbox; have n0_ := Yj ((hb.block _ (blk_lt BKD.out)).trans BKD.out); have n2_ := Yj (below_step HB.out hb); clear BKD HB; have BKD := n0_; have HB := n2_; clear n0_ n2_ hbox hb hgr; have hcd0 := (Yd BKD.out 0).trans rfl; have hcd1 := (Yd BKD.out 1).trans rfl; have hcr0 := (Yd BKR.out 0).trans rfl; have hcr1 := (Yd BKR.out 1).trans rfl; have hfr0 := Ye BKR.out 0; have hfr1 := Ye BKR.out 1) | (go_at_call 23; with_reducible refine (impl_CircuitValid.calls k a0_0 A0_1 c0_1 l0_1 true _ (Kd.C_below HR.out HB.out) HC.out HT0.out).mono ?_; rintro e wa ⟨rfl, hb⟩; have n0_ := Yj ((hb.block _ (blk_lt BKD.out)).trans BKD.out); have n1_ := Yj ((hb.block _ (blk_lt BKR.out)).trans BKR.out); have n2_ := Yj (below_step HB.out hb); clear BKD BKR HB; have BKD := n0_; have BKR := n1_; have HB := n2_; clear n0_ n1_ n2_; have hcd0 := (Yd BKD.out 0).trans rfl; have hcd1 := (Yd BKD.out 1).trans rfl; have hcr0 := (Yd BKR.out 0).trans rfl; have hcr1 := (Yd BKR.out 1).trans rfl; have hfr0 := Ye BKR.out 0; have hfr1 := Ye BKR.out 1; clear hb) | (go_at_call 24; with_reducible refine (impl_Circuit_isEdge.calls a0_0 A0_1 c0_1 l0_1 a1 true _ (Kd.C_below HR.out HB.out) HC.out HT1.out).mono ?_; rintro e wb1 ⟨rfl, hb'⟩; have hb := (by first | exact hb' | exact hb'.below | exact Drawn0.below hb' : Below _ _ _); have n0_ := Yj ((hb.block _ (blk_lt BKD.out)).trans BKD.out); have n1_ := Yj ((hb.block _ (blk_lt BKR.out)).trans BKR.out); have n2_ := Yj (below_step HB.out hb); clear BKD BKR HB; have BKD := n0_; have BKR := n1_; have HB := n2_; clear n0_ n1_ n2_; have hcd0 := (Yd BKD.out 0).trans rfl; have hcd1 := (Yd BKD.out 1).trans rfl; have hcr0 := (Yd BKR.out 0).trans rfl; have hcr1 := (Yd BKR.out 1).trans rfl; have hfr0 := Ye BKR.out 0; have hfr1 := Ye BKR.out 1; clear hb hb') | (go_at_call 24; with_reducible refine (impl_Circuit_isEdge.calls a0_0 A0_1 c0_1 l0_1 a2 true _ (Kd.C_below HR.out HB.out) HC.out HT2.out).mono ?_; rintro e wb2 ⟨rfl, hb'⟩; have hb := (by first | exact hb' | exact hb'.below | exact Drawn0.below hb' : Below _ _ _); have n0_ := Yj ((hb.block _ (blk_lt BKD.out)).trans BKD.out); have n1_ := Yj ((hb.block _ (blk_lt BKR.out)).trans BKR.out); have n2_ := Yj (below_step HB.out hb); clear BKD BKR HB; have BKD := n0_; have BKR := n1_; have HB := n2_; clear n0_ n1_ n2_; have hcd0 := (Yd BKD.out 0).trans rfl; have hcd1 := (Yd BKD.out 1).trans rfl; have hcr0 := (Yd BKR.out 0).trans rfl; have hcr1 := (Yd BKR.out 1).trans rfl; have hfr0 := Ye BKR.out 0; have hfr1 := Ye BKR.out 1; clear hb hb') | (go_at_call 25; with_reducible refine (impl_building.calls a0_0 A0_1 c0_1 l0_1 _ (Kd.C_below HR.out HB.out) HC.out HGG.out HLN.out).mono ?_; rintro e wc ⟨gb, rfl, bm, A1, c1, hbk, ho, hm, hgb, hbm, hb⟩; have BKB := Yj hbk; have HO := Yj ho; have HM := Yj hm; have GB := Yj hgb; have GM := Yj hbm; have HBB := Yj hb; clear hbk ho hm hgb hbm hb) | (go_at_call 27; with_reducible refine (impl_builder_and.calls a0_0 l0_1 a1 a2 gb bm A1 c1 _ _ HBB.out BKB.out HO.out HM.out GB.out GM.out HLN.out HW1.out HW2.out).mono ?_; rintro e wd ⟨rfl, A2, c2, hbk, ho, hb⟩; rw [HF.out] at hbk; clear BKB HO HM HBB; have BKB := Yj hbk; have HO := Yj ho; have HBB := Yj hb; clear hbk ho hb) | (go_at_call 26; with_reducible refine (impl_builder_done.calls_f a0_0 (impl_builder_and.f a0_0 l0_1 a1 a2).2.1 (impl_builder_and.f a0_0 l0_1 a1 a2).1 gb bm A2 c2 _ _ HBB.out BKB.out HO.out GB.out HL2.out).mono ?_; rintro e we ⟨v1, rfl, ho, hb⟩; obtain ⟨A3, c3, rfl⟩ := Kd.R_slice ho; have BKE := Yj ((hb.block _ (blk_lt BKR.out)).trans BKR.out); have HOE := Yj (Kd.R_newB ho BKR.out); have HBE := Yj (below_step HB.out hb); clear ho hb; have hce0 := (Yd BKE.out 0).trans rfl; have hce1 := (Yd BKE.out 1).trans rfl; have hfe0 := Ye BKE.out 0; have hfe1 := Ye BKE.out 1))
 refine bodyPost_ret (results_ct rfl _ _ gr 28 #[.int .i64 a0_0, .slice A3 (impl_builder_and.f a0_0 l0_1 a1 a2).2.1.length c3] (0, 0) _ rfl (by refine blk_put (cs := #[.int .i64 a0_0, .slice none 0 0]) ?_ 1 _ rfl; refine blk_put (cs := #[.int .i64 0, .slice none 0 0]) ?_ 0 _ rfl; exact BKE.out) Try.underlying28 rfl (by kernel_rfl)) rfl ?_
 exact ⟨_, rfl, Kd.R_lower (Kd.R_mono (Kd.R_far (p := ⟨gr, 1, none⟩) (Kd.R_far (p := ⟨gr, 0, none⟩) HOE.out (fun _ hk => hk.2) _) (fun _ hk => hk.2) _) (fun _ _ => trivial)) HB.out.size, Yi (Yi HBE.out GR.out) GR.out⟩
set_option maxHeartbeats 40000000 in
set_option maxRecDepth 100000 in
theorem impl_AddAnd.calls (k : Nat) (a0_0 : Int) (A0_1 : Option Addr) (c0_1 : Nat) (l0_1 : List (S57)) (a1 : Int) (a2 : Int) (r1 : Int) (r2 : List (S57)) (r3 : Int) (w : World) (hr0_1 : Kd.C k57 w A0_1 l0_1.length l0_1) (hc0_1 : l0_1.length ≤ c0_1) (h : impl_AddAnd.f k a0_0 l0_1 a1 a2 = some (r1, r2, r3)) :
  Calls Try.prog 9 #[.agg #[.int .i64 a0_0, .slice A0_1 l0_1.length c0_1], .int .i64 a1, .int .i64 a2] w fun e w' => ∃ v1_ : Value, e = .returned (.tuple #[.agg #[.int .i64 r1, v1_], .int .i64 r3]) ∧ Kd.R k57 57 w' w.heap.size (fun _ => True) v1_ (r2) ∧ Below w.heap.size w w' := by
 unfold impl_AddAnd.f at h
 obtain ⟨t0, ht0, h⟩ := Option.bind_eq_some_iff.mp h
 cases t0 with
 | false =>
  rw [if_neg (by decide)] at h
  simp only [Option.some.injEq, Prod.mk.injEq] at h
  obtain ⟨rfl, rfl, rfl⟩ := h
  exact impl_AddAnd.calls_a k a0_0 A0_1 c0_1 l0_1 a1 a2 w hr0_1 hc0_1 ht0
 | true =>
  rw [if_pos rfl] at h
  obtain ⟨t1, ht1, h⟩ := Option.bind_eq_some_iff.mp h
  cases t1 with
  | false =>
   rw [if_neg (by decide)] at h
   simp only [Option.some.injEq, Prod.mk.injEq] at h
   obtain ⟨rfl, rfl, rfl⟩ := h
   exact impl_AddAnd.calls_b k a0_0 A0_1 c0_1 l0_1 a1 a2 w hr0_1 hc0_1 ht0 ht1
  | true =>
   rw [if_pos rfl] at h
   obtain ⟨t2, ht2, h⟩ := Option.bind_eq_some_iff.mp h
   cases t2 with
   | false =>
    rw [if_neg (by decide)] at h
    simp only [Option.some.injEq, Prod.mk.injEq] at h
    obtain ⟨rfl, rfl, rfl⟩ := h
    exact impl_AddAnd.calls_c k a0_0 A0_1 c0_1 l0_1 a1 a2 w hr0_1 hc0_1 ht0 ht1 ht2
   | true =>
    rw [if_pos rfl] at h
    by_cases hg : impl_AddAnd.good l0_1 a1 a2 = true
    ·rw [if_pos hg] at h
     unfold impl_AddAnd.good at hg
     simp only [Bool.and_eq_true, decide_eq_true_eq, List.all_eq_true] at hg
     obtain ⟨⟨⟨hgd, hw1⟩, hw2⟩, hlen⟩ := hg
     cases hf : (impl_builder_and.f a0_0 l0_1 a1 a2).2.2 with
     | true =>
      rw [hf, if_pos rfl] at h
      simp only [Option.some.injEq, Prod.mk.injEq] at h
      obtain ⟨rfl, rfl, rfl⟩ := h
      exact impl_AddAnd.calls_d k a0_0 A0_1 c0_1 l0_1 a1 a2 w hr0_1 hc0_1 ht0 ht1 ht2 hgd hw1 hw2 hlen hf
     | false =>
      rw [hf, if_neg (by decide)] at h
      simp only [Option.some.injEq, Prod.mk.injEq] at h
      obtain ⟨rfl, rfl, rfl⟩ := h
      exact impl_AddAnd.calls_e k a0_0 A0_1 c0_1 l0_1 a1 a2 w hr0_1 hc0_1 ht0 ht1 ht2 hgd hw1 hw2 hlen hf
    ·rw [if_neg hg] at h
     cases h


/-! ### impl_builder_or: function 32 (by hand) -/
def impl_builder_or.f (n : Int) (l : List S57) (x y : Int) : Int × List S57 × Bool := (Go.bits .xor .i64 (impl_builder_and.f n l (Go.bits .xor .i64 x 1) (Go.bits .xor .i64 y 1)).1 1, (impl_builder_and.f n l (Go.bits .xor .i64 x 1) (Go.bits .xor .i64 y 1)).2)
theorem impl_builder_or.xor_wf (x : Int) : (Lit.int .i64 (Go.bits .xor .i64 x 1)).wf = true := by
 have h : Go.bits .xor .i64 x 1 = IntKind.i64.wrap (((BitVec.ofInt 64 x ^^^ BitVec.ofInt 64 1).toNat : Nat) : Int) := rfl
 rw [h, i64_w]
 exact impl_builder_and.wrap_wf _
theorem impl_builder_or.f_len (n : Int) (l : List S57) (x y : Int) (h : l.length ≤ 600) : (impl_builder_or.f n l x y).2.1.length ≤ 601 := impl_builder_and.f_len _ _ _ _ h
set_option maxHeartbeats 40000000 in
set_option maxRecDepth 100000 in
theorem impl_builder_or.calls (a0 : Int) (l : List S57) (x y : Int) (gb bm : Nat) (A1 : Option Addr) (c1 : Nat) (w0 w : World) (hb : Below w0.heap.size w0 w) (hbk : w.heap[gb]? = some (.cells #[.int .i64 a0, .slice A1 l.length c1, .map (some bm), .bool false] 67 (0, 0))) (ho : Kd.R k57 57 w w0.heap.size (fun _ => True) (.slice A1 l.length c1) l) (hm : Go.Proofs.YthphgkhmeobadaaX.MapF impl_building.key impl_building.elem w bm l.length (impl_building.seen a0 l l.length)) (hgb : w0.heap.size ≤ gb) (hbm : w0.heap.size ≤ bm) (hlen : l.length ≤ 600) :
  Calls Try.prog 32 #[.pointer (some ⟨gb, 0, none⟩), .int .i64 x, .int .i64 y] w fun e w' => e = .returned (.int .i64 ((impl_builder_or.f a0 l x y).1)) ∧ ∃ (A2 : Option Addr) (c2 : Nat), w'.heap[gb]? = some (.cells #[.int .i64 a0, .slice A2 ((impl_builder_or.f a0 l x y).2.1).length c2, .map (some bm), .bool ((impl_builder_or.f a0 l x y).2.2)] 67 (0, 0)) ∧ Kd.R k57 57 w' w0.heap.size (fun _ => True) (.slice A2 ((impl_builder_or.f a0 l x y).2.1).length c2) ((impl_builder_or.f a0 l x y).2.1) ∧ Below w0.heap.size w0 w' := by
 have HB := Yj hb
 have BKB := Yj hbk
 have HO := Yj ho
 have HM := Yj hm
 have GB := Yj hgb
 have GM := Yj hbm
 have HLN := Yj hlen
 clear hb hbk ho hm hgb hbm
 have hwx := impl_builder_or.xor_wf x
 have hwy := impl_builder_or.xor_wf y
 go_enter Try.func32, Try.ntmps32
 go_wp2_with (first | (go_at_call 27; with_reducible refine (impl_builder_and.calls a0 l (Go.bits .xor .i64 x 1) (Go.bits .xor .i64 y 1) gb bm A1 c1 w0 _ HB.out BKB.out HO.out HM.out GB.out GM.out HLN.out hwx hwy).mono ?_; rintro e w9 ⟨rfl, A2, c2, bkb, ho, hb⟩; clear HB BKB HO HM; have HB := Yj hb; have BKB := Yj bkb; have HO := Yj ho; clear hb bkb ho))
 go_ret
 exact ⟨rfl, A2, c2, BKB.out, HO.out, HB.out⟩

/-! ### impl_AddOr: function 14 (by hand) -/
def impl_AddOr.good (l : List S57) (a b : Int) : Bool := l.all (fun y => (Lit.int .i64 y.f0).wf && (Lit.int .i64 y.f1).wf) && (Lit.int .i64 a).wf && (Lit.int .i64 b).wf && decide (l.length ≤ 600)
def impl_AddOr.f (k : Nat) (a0_0 : Int) (l0_1 : List (S57)) (a1 : Int) (a2 : Int) : Option (Int × (List (S57)) × Int) := (impl_CircuitValid.f k a0_0 l0_1).bind fun t => if t = true then ((impl_Circuit_isEdge.f a0_0 l0_1 a1).bind fun t1 => if t1 = true then ((impl_Circuit_isEdge.f a0_0 l0_1 a2).bind fun t2 => if t2 = true then (if impl_AddOr.good l0_1 a1 a2 = true then some (if (impl_builder_or.f a0_0 l0_1 a1 a2).2.2 = true then (0, [], -1) else (a0_0, (impl_builder_or.f a0_0 l0_1 a1 a2).2.1, (impl_builder_or.f a0_0 l0_1 a1 a2).1)) else none) else some (0, [], -1)) else some (0, [], -1)) else some (0, [], -1)
theorem impl_AddOr.mono : ∀ a0 a1 a2 a3 k, LeO (impl_AddOr.f k a0 a1 a2 a3) (impl_AddOr.f (k + 1) a0 a1 a2 a3) := by
 intro a0 a1 a2 a3 k
 unfold impl_AddOr.f
 exact LeO.bind (impl_CircuitValid.mono _ _ _) (fun _ => LeO.refl _)
set_option maxHeartbeats 40000000 in
set_option maxRecDepth 100000 in
theorem impl_AddOr.calls_a (k : Nat) (a0_0 : Int) (A0_1 : Option Addr) (c0_1 : Nat) (l0_1 : List (S57)) (a1 : Int) (a2 : Int) (w : World) (hr0_1 : Kd.C k57 w A0_1 l0_1.length l0_1) (hc0_1 : l0_1.length ≤ c0_1) (ht0 : impl_CircuitValid.f k a0_0 l0_1 = some false) :
  Calls Try.prog 14 #[.agg #[.int .i64 a0_0, .slice A0_1 l0_1.length c0_1], .int .i64 a1, .int .i64 a2] w fun e w' => ∃ v1_ : Value, e = .returned (.tuple #[.agg #[.int .i64 0, v1_], .int .i64 (-1)]) ∧ Kd.R k57 57 w' w.heap.size (fun _ => True) v1_ ([]) ∧ Below w.heap.size w w' := by
 have hu := Try.underlying28
 have HR := Yj hr0_1
 have HC := Yj hc0_1
 have HB := Yj (Below.refl w.heap.size w)
 clear hr0_1 hc0_1
 have HT0 := Yj ht0
 clear ht0
 go_enter Try.func14, Try.ntmps14
 go_wp2_with (first | ((with_reducible refine gate_dst (N := 3) rfl ?_); refine box_event ?hg (N := 3) ?hd (cs := #[.int .i64 a0_0, .slice A0_1 l0_1.length c0_1]) (t := 28) ?hr ?_; (case hd => rfl); (case hg => rfl); (case hr => first | (go_simp; done) | (go_simp; rfl)); intro gd hgd w5 hbox hb; have BKD := Yj hbox; have n2_ := Yj (below_step HB.out hb); clear HB; have HB := n2_; clear n2_ hbox hb hgd) | ((with_reducible refine gate_dst (N := 6) rfl ?_); refine box_event ?hg (N := 6) ?hd (cs := #[.int .i64 0, .slice none 0 0]) (t := 28) ?hr ?_; (case hd => rfl); (case hg => rfl); (case hr => first | (go_simp; done) | (go_simp; rfl)); intro gr hgr w6 hbox hb; have GR := Yj (show w.heap.size ≤ gr by rw [hgr]; exact HB.out.size); have BKR := Yj hbox; have n0_ := Yj ((hb.block _ (blk_lt BKD.out)).trans BKD.out); have n2_ := Yj (below_step HB.out hb); clear BKD HB; have BKD := n0_; have HB := n2_; clear n0_ n2_ hbox hb hgr; have hcd0 := (Yd BKD.out 0).trans rfl; have hcd1 := (Yd BKD.out 1).trans rfl; have hcr0 := (Yd BKR.out 0).trans rfl; have hcr1 := (Yd BKR.out 1).trans rfl; have hfr0 := Ye BKR.out 0; have hfr1 := Ye BKR.out 1) | (go_at_call 23; with_reducible refine (impl_CircuitValid.calls k a0_0 A0_1 c0_1 l0_1 false _ (Kd.C_below HR.out HB.out) HC.out HT0.out).mono ?_; rintro e wa ⟨rfl, hb⟩; have n0_ := Yj ((hb.block _ (blk_lt BKD.out)).trans BKD.out); have n1_ := Yj ((hb.block _ (blk_lt BKR.out)).trans BKR.out); have n2_ := Yj (below_step HB.out hb); clear BKD BKR HB; have BKD := n0_; have BKR := n1_; have HB := n2_; clear n0_ n1_ n2_; have hcd0 := (Yd BKD.out 0).trans rfl; have hcd1 := (Yd BKD.out 1).trans rfl; have hcr0 := (Yd BKR.out 0).trans rfl; have hcr1 := (Yd BKR.out 1).trans rfl; have hfr0 := Ye BKR.out 0; have hfr1 := Ye BKR.out 1; clear hb))
 refine bodyPost_ret (results_ct rfl _ _ gr 28 #[.int .i64 0, .slice none 0 0] (0, 0) _ rfl (by refine blk_put (cs := #[.int .i64 0, .slice none 0 0]) ?_ 1 _ rfl; refine blk_put (cs := #[.int .i64 0, .slice none 0 0]) ?_ 0 _ rfl; exact BKR.out) Try.underlying28 rfl (by kernel_rfl)) rfl ?_
 exact ⟨_, rfl, Kd.R_nil _ _ _ _ _, Yi (Yi HB.out GR.out) GR.out⟩
set_option maxHeartbeats 40000000 in
set_option maxRecDepth 100000 in
theorem impl_AddOr.calls_b (k : Nat) (a0_0 : Int) (A0_1 : Option Addr) (c0_1 : Nat) (l0_1 : List (S57)) (a1 : Int) (a2 : Int) (w : World) (hr0_1 : Kd.C k57 w A0_1 l0_1.length l0_1) (hc0_1 : l0_1.length ≤ c0_1) (ht0 : impl_CircuitValid.f k a0_0 l0_1 = some true) (ht1 : impl_Circuit_isEdge.f a0_0 l0_1 a1 = some false) :
  Calls Try.prog 14 #[.agg #[.int .i64 a0_0, .slice A0_1 l0_1.length c0_1], .int .i64 a1, .int .i64 a2] w fun e w' => ∃ v1_ : Value, e = .returned (.tuple #[.agg #[.int .i64 0, v1_], .int .i64 (-1)]) ∧ Kd.R k57 57 w' w.heap.size (fun _ => True) v1_ ([]) ∧ Below w.heap.size w w' := by
 have hu := Try.underlying28
 have HR := Yj hr0_1
 have HC := Yj hc0_1
 have HB := Yj (Below.refl w.heap.size w)
 clear hr0_1 hc0_1
 have HT0 := Yj ht0
 clear ht0
 have HT1 := Yj ht1
 clear ht1
 go_enter Try.func14, Try.ntmps14
 go_wp2_with (first | ((with_reducible refine gate_dst (N := 3) rfl ?_); refine box_event ?hg (N := 3) ?hd (cs := #[.int .i64 a0_0, .slice A0_1 l0_1.length c0_1]) (t := 28) ?hr ?_; (case hd => rfl); (case hg => rfl); (case hr => first | (go_simp; done) | (go_simp; rfl)); intro gd hgd w5 hbox hb; have BKD := Yj hbox; have n2_ := Yj (below_step HB.out hb); clear HB; have HB := n2_; clear n2_ hbox hb hgd) | ((with_reducible refine gate_dst (N := 6) rfl ?_); refine box_event ?hg (N := 6) ?hd (cs := #[.int .i64 0, .slice none 0 0]) (t := 28) ?hr ?_; (case hd => rfl); (case hg => rfl); (case hr => first | (go_simp; done) | (go_simp; rfl)); intro gr hgr w6 hbox hb; have GR := Yj (show w.heap.size ≤ gr by rw [hgr]; exact HB.out.size); have BKR := Yj hbox; have n0_ := Yj ((hb.block _ (blk_lt BKD.out)).trans BKD.out); have n2_ := Yj (below_step HB.out hb); clear BKD HB; have BKD := n0_; have HB := n2_; clear n0_ n2_ hbox hb hgr; have hcd0 := (Yd BKD.out 0).trans rfl; have hcd1 := (Yd BKD.out 1).trans rfl; have hcr0 := (Yd BKR.out 0).trans rfl; have hcr1 := (Yd BKR.out 1).trans rfl; have hfr0 := Ye BKR.out 0; have hfr1 := Ye BKR.out 1) | (go_at_call 23; with_reducible refine (impl_CircuitValid.calls k a0_0 A0_1 c0_1 l0_1 true _ (Kd.C_below HR.out HB.out) HC.out HT0.out).mono ?_; rintro e wa ⟨rfl, hb⟩; have n0_ := Yj ((hb.block _ (blk_lt BKD.out)).trans BKD.out); have n1_ := Yj ((hb.block _ (blk_lt BKR.out)).trans BKR.out); have n2_ := Yj (below_step HB.out hb); clear BKD BKR HB; have BKD := n0_; have BKR := n1_; have HB := n2_; clear n0_ n1_ n2_; have hcd0 := (Yd BKD.out 0).trans rfl; have hcd1 := (Yd BKD.out 1).trans rfl; have hcr0 := (Yd BKR.out 0).trans rfl; have hcr1 := (Yd BKR.out 1).trans rfl; have hfr0 := Ye BKR.out 0; have hfr1 := Ye BKR.out 1; clear hb) | (go_at_call 24; with_reducible refine (impl_Circuit_isEdge.calls a0_0 A0_1 c0_1 l0_1 a1 false _ (Kd.C_below HR.out HB.out) HC.out HT1.out).mono ?_; rintro e wb1 ⟨rfl, hb'⟩; have hb := (by first | exact hb' | exact hb'.below | exact Drawn0.below hb' : Below _ _ _); have n0_ := Yj ((hb.block _ (blk_lt BKD.out)).trans BKD.out); have n1_ := Yj ((hb.block _ (blk_lt BKR.out)).trans BKR.out); have n2_ := Yj (below_step HB.out hb); clear BKD BKR HB; have BKD := n0_; have BKR := n1_; have HB := n2_; clear n0_ n1_ n2_; have hcd0 := (Yd BKD.out 0).trans rfl; have hcd1 := (Yd BKD.out 1).trans rfl; have hcr0 := (Yd BKR.out 0).trans rfl; have hcr1 := (Yd BKR.out 1).trans rfl; have hfr0 := Ye BKR.out 0; have hfr1 := Ye BKR.out 1; clear hb hb'))
 refine bodyPost_ret (results_ct rfl _ _ gr 28 #[.int .i64 0, .slice none 0 0] (0, 0) _ rfl (by refine blk_put (cs := #[.int .i64 0, .slice none 0 0]) ?_ 1 _ rfl; refine blk_put (cs := #[.int .i64 0, .slice none 0 0]) ?_ 0 _ rfl; exact BKR.out) Try.underlying28 rfl (by kernel_rfl)) rfl ?_
 exact ⟨_, rfl, Kd.R_nil _ _ _ _ _, Yi (Yi HB.out GR.out) GR.out⟩
set_option maxHeartbeats 40000000 in
set_option maxRecDepth 100000 in
theorem impl_AddOr.calls_c (k : Nat) (a0_0 : Int) (A0_1 : Option Addr) (c0_1 : Nat) (l0_1 : List (S57)) (a1 : Int) (a2 : Int) (w : World) (hr0_1 : Kd.C k57 w A0_1 l0_1.length l0_1) (hc0_1 : l0_1.length ≤ c0_1) (ht0 : impl_CircuitValid.f k a0_0 l0_1 = some true) (ht1 : impl_Circuit_isEdge.f a0_0 l0_1 a1 = some true) (ht2 : impl_Circuit_isEdge.f a0_0 l0_1 a2 = some false) :
  Calls Try.prog 14 #[.agg #[.int .i64 a0_0, .slice A0_1 l0_1.length c0_1], .int .i64 a1, .int .i64 a2] w fun e w' => ∃ v1_ : Value, e = .returned (.tuple #[.agg #[.int .i64 0, v1_], .int .i64 (-1)]) ∧ Kd.R k57 57 w' w.heap.size (fun _ => True) v1_ ([]) ∧ Below w.heap.size w w' := by
 have hu := Try.underlying28
 have HR := Yj hr0_1
 have HC := Yj hc0_1
 have HB := Yj (Below.refl w.heap.size w)
 clear hr0_1 hc0_1
 have HT0 := Yj ht0
 clear ht0
 have HT1 := Yj ht1
 clear ht1
 have HT2 := Yj ht2
 clear ht2
 go_enter Try.func14, Try.ntmps14
 go_wp2_with (first | ((with_reducible refine gate_dst (N := 3) rfl ?_); refine box_event ?hg (N := 3) ?hd (cs := #[.int .i64 a0_0, .slice A0_1 l0_1.length c0_1]) (t := 28) ?hr ?_; (case hd => rfl); (case hg => rfl); (case hr => first | (go_simp; done) | (go_simp; rfl)); intro gd hgd w5 hbox hb; have BKD := Yj hbox; have n2_ := Yj (below_step HB.out hb); clear HB; have HB := n2_; clear n2_ hbox hb hgd) | ((with_reducible refine gate_dst (N := 6) rfl ?_); refine box_event ?hg (N := 6) ?hd (cs := #[.int .i64 0, .slice none 0 0]) (t := 28) ?hr ?_; (case hd => rfl); (case hg => rfl); (case hr => first | (go_simp; done) | (go_simp; rfl)); intro gr hgr w6 hbox hb; have GR := Yj (show w.heap.size ≤ gr by rw [hgr]; exact HB.out.size); have BKR := Yj hbox; have n0_ := Yj ((hb.block _ (blk_lt BKD.out)).trans BKD.out); have n2_ := Yj (below_step HB.out hb); clear BKD HB; have BKD := n0_; have HB := n2_; clear n0_ n2_ hbox hb hgr; have hcd0 := (Yd BKD.out 0).trans rfl; have hcd1 := (Yd BKD.out 1).trans rfl; have hcr0 := (Yd BKR.out 0).trans rfl; have hcr1 := (Yd BKR.out 1).trans rfl; have hfr0 := Ye BKR.out 0; have hfr1 := Ye BKR.out 1) | (go_at_call 23; with_reducible refine (impl_CircuitValid.calls k a0_0 A0_1 c0_1 l0_1 true _ (Kd.C_below HR.out HB.out) HC.out HT0.out).mono ?_; rintro e wa ⟨rfl, hb⟩; have n0_ := Yj ((hb.block _ (blk_lt BKD.out)).trans BKD.out); have n1_ := Yj ((hb.block _ (blk_lt BKR.out)).trans BKR.out); have n2_ := Yj (below_step HB.out hb); clear BKD BKR HB; have BKD := n0_; have BKR := n1_; have HB := n2_; clear n0_ n1_ n2_; have hcd0 := (Yd BKD.out 0).trans rfl; have hcd1 := (Yd BKD.out 1).trans rfl; have hcr0 := (Yd BKR.out 0).trans rfl; have hcr1 := (Yd BKR.out 1).trans rfl; have hfr0 := Ye BKR.out 0; have hfr1 := Ye BKR.out 1; clear hb) | (go_at_call 24; with_reducible refine (impl_Circuit_isEdge.calls a0_0 A0_1 c0_1 l0_1 a1 true _ (Kd.C_below HR.out HB.out) HC.out HT1.out).mono ?_; rintro e wb1 ⟨rfl, hb'⟩; have hb := (by first | exact hb' | exact hb'.below | exact Drawn0.below hb' : Below _ _ _); have n0_ := Yj ((hb.block _ (blk_lt BKD.out)).trans BKD.out); have n1_ := Yj ((hb.block _ (blk_lt BKR.out)).trans BKR.out); have n2_ := Yj (below_step HB.out hb); clear BKD BKR HB; have BKD := n0_; have BKR := n1_; have HB := n2_; clear n0_ n1_ n2_; have hcd0 := (Yd BKD.out 0).trans rfl; have hcd1 := (Yd BKD.out 1).trans rfl; have hcr0 := (Yd BKR.out 0).trans rfl; have hcr1 := (Yd BKR.out 1).trans rfl; have hfr0 := Ye BKR.out 0; have hfr1 := Ye BKR.out 1; clear hb hb') | (go_at_call 24; with_reducible refine (impl_Circuit_isEdge.calls a0_0 A0_1 c0_1 l0_1 a2 false _ (Kd.C_below HR.out HB.out) HC.out HT2.out).mono ?_; rintro e wb2 ⟨rfl, hb'⟩; have hb := (by first | exact hb' | exact hb'.below | exact Drawn0.below hb' : Below _ _ _); have n0_ := Yj ((hb.block _ (blk_lt BKD.out)).trans BKD.out); have n1_ := Yj ((hb.block _ (blk_lt BKR.out)).trans BKR.out); have n2_ := Yj (below_step HB.out hb); clear BKD BKR HB; have BKD := n0_; have BKR := n1_; have HB := n2_; clear n0_ n1_ n2_; have hcd0 := (Yd BKD.out 0).trans rfl; have hcd1 := (Yd BKD.out 1).trans rfl; have hcr0 := (Yd BKR.out 0).trans rfl; have hcr1 := (Yd BKR.out 1).trans rfl; have hfr0 := Ye BKR.out 0; have hfr1 := Ye BKR.out 1; clear hb hb'))
 refine bodyPost_ret (results_ct rfl _ _ gr 28 #[.int .i64 0, .slice none 0 0] (0, 0) _ rfl (by refine blk_put (cs := #[.int .i64 0, .slice none 0 0]) ?_ 1 _ rfl; refine blk_put (cs := #[.int .i64 0, .slice none 0 0]) ?_ 0 _ rfl; exact BKR.out) Try.underlying28 rfl (by kernel_rfl)) rfl ?_
 exact ⟨_, rfl, Kd.R_nil _ _ _ _ _, Yi (Yi HB.out GR.out) GR.out⟩
set_option maxHeartbeats 40000000 in
set_option maxRecDepth 100000 in
theorem impl_AddOr.calls_d (k : Nat) (a0_0 : Int) (A0_1 : Option Addr) (c0_1 : Nat) (l0_1 : List (S57)) (a1 : Int) (a2 : Int) (w : World) (hr0_1 : Kd.C k57 w A0_1 l0_1.length l0_1) (hc0_1 : l0_1.length ≤ c0_1) (ht0 : impl_CircuitValid.f k a0_0 l0_1 = some true) (ht1 : impl_Circuit_isEdge.f a0_0 l0_1 a1 = some true) (ht2 : impl_Circuit_isEdge.f a0_0 l0_1 a2 = some true) (hgd : ∀ y ∈ l0_1, impl_building.key.good y) (hw1 : (Lit.int .i64 a1).wf = true) (hw2 : (Lit.int .i64 a2).wf = true) (hlen : l0_1.length ≤ 600) (hf : (impl_builder_or.f a0_0 l0_1 a1 a2).2.2 = true) :
  Calls Try.prog 14 #[.agg #[.int .i64 a0_0, .slice A0_1 l0_1.length c0_1], .int .i64 a1, .int .i64 a2] w fun e w' => ∃ v1_ : Value, e = .returned (.tuple #[.agg #[.int .i64 0, v1_], .int .i64 (-1)]) ∧ Kd.R k57 57 w' w.heap.size (fun _ => True) v1_ ([]) ∧ Below w.heap.size w w' := by
 have hu := Try.underlying28
 have HR := Yj hr0_1
 have HC := Yj hc0_1
 have HB := Yj (Below.refl w.heap.size w)
 clear hr0_1 hc0_1
 have HT0 := Yj ht0
 clear ht0
 have HT1 := Yj ht1
 clear ht1
 have HT2 := Yj ht2
 clear ht2
 have HGG := Yj hgd
 have HW1 := Yj hw1
 have HW2 := Yj hw2
 have HLN := Yj hlen
 have HF := Yj hf
 have HL2 := Yj (impl_builder_or.f_len a0_0 l0_1 a1 a2 hlen)
 clear hgd hw1 hw2 hf
 go_enter Try.func14, Try.ntmps14
 go_wp2_with (first | ((with_reducible refine gate_dst (N := 3) rfl ?_); refine box_event ?hg (N := 3) ?hd (cs := #[.int .i64 a0_0, .slice A0_1 l0_1.length c0_1]) (t := 28) ?hr ?_; (case hd => rfl); (case hg => rfl); (case hr => first | (go_simp; done) | (go_simp; rfl)); intro gd hgd w5 hbox hb; have BKD := Yj hbox; have n2_ := Yj (below_step HB.out hb); clear HB; have HB := n2_; clear n2_ hbox hb hgd) | ((with_reducible refine gate_dst (N := 6) rfl ?_); refine box_event ?hg (N := 6) ?hd (cs := #[.int .i64 0, .slice none 0 0]) (t := 28) ?hr ?_; (case hd => rfl); (case hg => rfl); (case hr => first | (go_simp; done) | (go_simp; rfl)); intro gr hgr w6 hbox hb; have GR := Yj (show w.heap.size ≤ gr by rw [hgr]; exact HB.out.size); have BKR := Yj hbox; have n0_ := Yj ((hb.block _ (blk_lt BKD.out)).trans BKD.out); have n2_ := Yj (below_step HB.out hb); clear BKD HB; have BKD := n0_; have HB := n2_; clear n0_ n2_ hbox hb hgr; have hcd0 := (Yd BKD.out 0).trans rfl; have hcd1 := (Yd BKD.out 1).trans rfl; have hcr0 := (Yd BKR.out 0).trans rfl; have hcr1 := (Yd BKR.out 1).trans rfl; have hfr0 := Ye BKR.out 0; have hfr1 := Ye BKR.out 1) | (go_at_call 23; with_reducible refine (impl_CircuitValid.calls k a0_0 A0_1 c0_1 l0_1 true _ (Kd.C_below HR.out HB.out) HC.out HT0.out).mono ?_; rintro e wa ⟨rfl, hb⟩; have n0_ := Yj ((hb.block _ (blk_lt BKD.out)).trans BKD.out); have n1_ := Yj ((hb.block _ (blk_lt BKR.out)).trans BKR.out); have n2_ := Yj (below_step HB.out hb); clear BKD BKR HB; have BKD := n0_; have BKR := n1_; have HB := n2_; clear n0_ n1_ n2_; have hcd0 := (Yd BKD.out 0).trans rfl; have hcd1 := (Yd BKD.out 1).trans rfl; have hcr0 := (Yd BKR.out 0).trans rfl; have hcr1 := (Yd BKR.out 1).trans rfl; have hfr0 := Ye BKR.out 0; have hfr1 := Ye BKR.out 1; clear hb) | (go_at_call 24; with_reducible refine (impl_Circuit_isEdge.calls a0_0 A0_1 c0_1 l0_1 a1 true _ (Kd.C_below HR.out HB.out) HC.out HT1.out).mono ?_; rintro e wb1 ⟨rfl, hb'⟩; have hb := (by first | exact hb' | exact hb'.below | exact Drawn0.below hb' : Below _ _ _); have n0_ := Yj ((hb.block _ (blk_lt BKD.out)).trans BKD.out); have n1_ := Yj ((hb.block _ (blk_lt BKR.out)).trans BKR.out); have n2_ := Yj (below_step HB.out hb); clear BKD BKR HB; have BKD := n0_; have BKR := n1_; have HB := n2_; clear n0_ n1_ n2_; have hcd0 := (Yd BKD.out 0).trans rfl; have hcd1 := (Yd BKD.out 1).trans rfl; have hcr0 := (Yd BKR.out 0).trans rfl; have hcr1 := (Yd BKR.out 1).trans rfl; have hfr0 := Ye BKR.out 0; have hfr1 := Ye BKR.out 1; clear hb hb') | (go_at_call 24; with_reducible refine (impl_Circuit_isEdge.calls a0_0 A0_1 c0_1 l0_1 a2 true _ (Kd.C_below HR.out HB.out) HC.out HT2.out).mono ?_; rintro e wb2 ⟨rfl, hb'⟩; have hb := (by first | exact hb' | exact hb'.below | exact Drawn0.below hb' : Below _ _ _); have n0_ := Yj ((hb.block _ (blk_lt BKD.out)).trans BKD.out); have n1_ := Yj ((hb.block _ (blk_lt BKR.out)).trans BKR.out); have n2_ := Yj (below_step HB.out hb); clear BKD BKR HB; have BKD := n0_; have BKR := n1_; have HB := n2_; clear n0_ n1_ n2_; have hcd0 := (Yd BKD.out 0).trans rfl; have hcd1 := (Yd BKD.out 1).trans rfl; have hcr0 := (Yd BKR.out 0).trans rfl; have hcr1 := (Yd BKR.out 1).trans rfl; have hfr0 := Ye BKR.out 0; have hfr1 := Ye BKR.out 1; clear hb hb') | (go_at_call 25; with_reducible refine (impl_building.calls a0_0 A0_1 c0_1 l0_1 _ (Kd.C_below HR.out HB.out) HC.out HGG.out HLN.out).mono ?_; rintro e wc ⟨gb, rfl, bm, A1, c1, hbk, ho, hm, hgb, hbm, hb⟩; have BKB := Yj hbk; have HO := Yj ho; have HM := Yj hm; have GB := Yj hgb; have GM := Yj hbm; have HBB := Yj hb; clear hbk ho hm hgb hbm hb) | (go_at_call 32; with_reducible refine (impl_builder_or.calls a0_0 l0_1 a1 a2 gb bm A1 c1 _ _ HBB.out BKB.out HO.out HM.out GB.out GM.out HLN.out).mono ?_; rintro e wd ⟨rfl, A2, c2, hbk, ho, hb⟩; rw [HF.out] at hbk; clear BKB HO HM HBB; have BKB := Yj hbk; have HO := Yj ho; have HBB := Yj hb; clear hbk ho hb) | (go_at_call 26; with_reducible refine (impl_builder_done.calls_t a0_0 (impl_builder_or.f a0_0 l0_1 a1 a2).2.1 (impl_builder_or.f a0_0 l0_1 a1 a2).1 gb bm A2 c2 _ _ HBB.out BKB.out HO.out GB.out HL2.out).mono ?_; rintro e we ⟨v1, rfl, ho, hb⟩; obtain ⟨A3, c3, rfl⟩ := Kd.R_slice ho; have BKE := Yj ((hb.block _ (blk_lt BKR.out)).trans BKR.out); have HOE := Yj (Kd.R_newB ho BKR.out); have HBE := Yj (below_step HB.out hb); clear ho hb; have hce0 := (Yd BKE.out 0).trans rfl; have hce1 := (Yd BKE.out 1).trans rfl; have hfe0 := Ye BKE.out 0; have hfe1 := Ye BKE.out 1))
 refine bodyPost_ret (results_ct rfl _ _ gr 28 #[.int .i64 0, .slice A3 ([] : List S57).length c3] (0, 0) _ rfl (by refine blk_put (cs := #[.int .i64 0, .slice none 0 0]) ?_ 1 _ rfl; refine blk_put (cs := #[.int .i64 0, .slice none 0 0]) ?_ 0 _ rfl; exact BKE.out) Try.underlying28 rfl (by kernel_rfl)) rfl ?_
 exact ⟨_, rfl, Kd.R_lower (Kd.R_mono (Kd.R_far (p := ⟨gr, 1, none⟩) (Kd.R_far (p := ⟨gr, 0, none⟩) HOE.out (fun _ hk => hk.2) _) (fun _ hk => hk.2) _) (fun _ _ => trivial)) HB.out.size, Yi (Yi HBE.out GR.out) GR.out⟩
set_option maxHeartbeats 40000000 in
set_option maxRecDepth 100000 in
theorem impl_AddOr.calls_e (k : Nat) (a0_0 : Int) (A0_1 : Option Addr) (c0_1 : Nat) (l0_1 : List (S57)) (a1 : Int) (a2 : Int) (w : World) (hr0_1 : Kd.C k57 w A0_1 l0_1.length l0_1) (hc0_1 : l0_1.length ≤ c0_1) (ht0 : impl_CircuitValid.f k a0_0 l0_1 = some true) (ht1 : impl_Circuit_isEdge.f a0_0 l0_1 a1 = some true) (ht2 : impl_Circuit_isEdge.f a0_0 l0_1 a2 = some true) (hgd : ∀ y ∈ l0_1, impl_building.key.good y) (hw1 : (Lit.int .i64 a1).wf = true) (hw2 : (Lit.int .i64 a2).wf = true) (hlen : l0_1.length ≤ 600) (hf : (impl_builder_or.f a0_0 l0_1 a1 a2).2.2 = false) :
  Calls Try.prog 14 #[.agg #[.int .i64 a0_0, .slice A0_1 l0_1.length c0_1], .int .i64 a1, .int .i64 a2] w fun e w' => ∃ v1_ : Value, e = .returned (.tuple #[.agg #[.int .i64 a0_0, v1_], .int .i64 ((impl_builder_or.f a0_0 l0_1 a1 a2).1)]) ∧ Kd.R k57 57 w' w.heap.size (fun _ => True) v1_ ((impl_builder_or.f a0_0 l0_1 a1 a2).2.1) ∧ Below w.heap.size w w' := by
 have hu := Try.underlying28
 have HR := Yj hr0_1
 have HC := Yj hc0_1
 have HB := Yj (Below.refl w.heap.size w)
 clear hr0_1 hc0_1
 have HT0 := Yj ht0
 clear ht0
 have HT1 := Yj ht1
 clear ht1
 have HT2 := Yj ht2
 clear ht2
 have HGG := Yj hgd
 have HW1 := Yj hw1
 have HW2 := Yj hw2
 have HLN := Yj hlen
 have HF := Yj hf
 have HL2 := Yj (impl_builder_or.f_len a0_0 l0_1 a1 a2 hlen)
 clear hgd hw1 hw2 hf
 go_enter Try.func14, Try.ntmps14
 go_wp2_with (first | ((with_reducible refine gate_dst (N := 3) rfl ?_); refine box_event ?hg (N := 3) ?hd (cs := #[.int .i64 a0_0, .slice A0_1 l0_1.length c0_1]) (t := 28) ?hr ?_; (case hd => rfl); (case hg => rfl); (case hr => first | (go_simp; done) | (go_simp; rfl)); intro gd hgd w5 hbox hb; have BKD := Yj hbox; have n2_ := Yj (below_step HB.out hb); clear HB; have HB := n2_; clear n2_ hbox hb hgd) | ((with_reducible refine gate_dst (N := 6) rfl ?_); refine box_event ?hg (N := 6) ?hd (cs := #[.int .i64 0, .slice none 0 0]) (t := 28) ?hr ?_; (case hd => rfl); (case hg => rfl); (case hr => first | (go_simp; done) | (go_simp; rfl)); intro gr hgr w6 hbox hb; have GR := Yj (show w.heap.size ≤ gr by rw [hgr]; exact HB.out.size); have BKR := Yj hbox; have n0_ := Yj ((hb.block _ (blk_lt BKD.out)).trans BKD.out); have n2_ := Yj (below_step HB.out hb); clear BKD HB; have BKD := n0_; have HB := n2_; clear n0_ n2_ hbox hb hgr; have hcd0 := (Yd BKD.out 0).trans rfl; have hcd1 := (Yd BKD.out 1).trans rfl; have hcr0 := (Yd BKR.out 0).trans rfl; have hcr1 := (Yd BKR.out 1).trans rfl; have hfr0 := Ye BKR.out 0; have hfr1 := Ye BKR.out 1) | (go_at_call 23; with_reducible refine (impl_CircuitValid.calls k a0_0 A0_1 c0_1 l0_1 true _ (Kd.C_below HR.out HB.out) HC.out HT0.out).mono ?_; rintro e wa ⟨rfl, hb⟩; have n0_ := Yj ((hb.block _ (blk_lt BKD.out)).trans BKD.out); have n1_ := Yj ((hb.block _ (blk_lt BKR.out)).trans BKR.out); have n2_ := Yj (below_step HB.out hb); clear BKD BKR HB; have BKD := n0_; have BKR := n1_; have HB := n2_; clear n0_ n1_ n2_; have hcd0 := (Yd BKD.out 0).trans rfl; have hcd1 := (Yd BKD.out 1).trans rfl; have hcr0 := (Yd BKR.out 0).trans rfl; have hcr1 := (Yd BKR.out 1).trans rfl; have hfr0 := Ye BKR.out 0; have hfr1 := Ye BKR.out 1; clear hb) | (go_at_call 24; with_reducible refine (impl_Circuit_isEdge.calls a0_0 A0_1 c0_1 l0_1 a1 true _ (Kd.C_below HR.out HB.out) HC.out HT1.out).mono ?_; rintro e wb1 ⟨rfl, hb'⟩; have hb := (by first | exact hb' | exact hb'.below | exact Drawn0.below hb' : Below _ _ _); have n0_ := Yj ((hb.block _ (blk_lt BKD.out)).trans BKD.out); have n1_ := Yj ((hb.block _ (blk_lt BKR.out)).trans BKR.out); have n2_ := Yj (below_step HB.out hb); clear BKD BKR HB; have BKD := n0_; have BKR := n1_; have HB := n2_; clear n0_ n1_ n2_; have hcd0 := (Yd BKD.out 0).trans rfl; have hcd1 := (Yd BKD.out 1).trans rfl; have hcr0 := (Yd BKR.out 0).trans rfl; have hcr1 := (Yd BKR.out 1).trans rfl; have hfr0 := Ye BKR.out 0; have hfr1 := Ye BKR.out 1; clear hb hb') | (go_at_call 24; with_reducible refine (impl_Circuit_isEdge.calls a0_0 A0_1 c0_1 l0_1 a2 true _ (Kd.C_below HR.out HB.out) HC.out HT2.out).mono ?_; rintro e wb2 ⟨rfl, hb'⟩; have hb := (by first | exact hb' | exact hb'.below | exact Drawn0.below hb' : Below _ _ _); have n0_ := Yj ((hb.block _ (blk_lt BKD.out)).trans BKD.out); have n1_ := Yj ((hb.block _ (blk_lt BKR.out)).trans BKR.out); have n2_ := Yj (below_step HB.out hb); clear BKD BKR HB; have BKD := n0_; have BKR := n1_; have HB := n2_; clear n0_ n1_ n2_; have hcd0 := (Yd BKD.out 0).trans rfl; have hcd1 := (Yd BKD.out 1).trans rfl; have hcr0 := (Yd BKR.out 0).trans rfl; have hcr1 := (Yd BKR.out 1).trans rfl; have hfr0 := Ye BKR.out 0; have hfr1 := Ye BKR.out 1; clear hb hb') | (go_at_call 25; with_reducible refine (impl_building.calls a0_0 A0_1 c0_1 l0_1 _ (Kd.C_below HR.out HB.out) HC.out HGG.out HLN.out).mono ?_; rintro e wc ⟨gb, rfl, bm, A1, c1, hbk, ho, hm, hgb, hbm, hb⟩; have BKB := Yj hbk; have HO := Yj ho; have HM := Yj hm; have GB := Yj hgb; have GM := Yj hbm; have HBB := Yj hb; clear hbk ho hm hgb hbm hb) | (go_at_call 32; with_reducible refine (impl_builder_or.calls a0_0 l0_1 a1 a2 gb bm A1 c1 _ _ HBB.out BKB.out HO.out HM.out GB.out GM.out HLN.out).mono ?_; rintro e wd ⟨rfl, A2, c2, hbk, ho, hb⟩; rw [HF.out] at hbk; clear BKB HO HM HBB; have BKB := Yj hbk; have HO := Yj ho; have HBB := Yj hb; clear hbk ho hb) | (go_at_call 26; with_reducible refine (impl_builder_done.calls_f a0_0 (impl_builder_or.f a0_0 l0_1 a1 a2).2.1 (impl_builder_or.f a0_0 l0_1 a1 a2).1 gb bm A2 c2 _ _ HBB.out BKB.out HO.out GB.out HL2.out).mono ?_; rintro e we ⟨v1, rfl, ho, hb⟩; obtain ⟨A3, c3, rfl⟩ := Kd.R_slice ho; have BKE := Yj ((hb.block _ (blk_lt BKR.out)).trans BKR.out); have HOE := Yj (Kd.R_newB ho BKR.out); have HBE := Yj (below_step HB.out hb); clear ho hb; have hce0 := (Yd BKE.out 0).trans rfl; have hce1 := (Yd BKE.out 1).trans rfl; have hfe0 := Ye BKE.out 0; have hfe1 := Ye BKE.out 1))
 refine bodyPost_ret (results_ct rfl _ _ gr 28 #[.int .i64 a0_0, .slice A3 (impl_builder_or.f a0_0 l0_1 a1 a2).2.1.length c3] (0, 0) _ rfl (by refine blk_put (cs := #[.int .i64 a0_0, .slice none 0 0]) ?_ 1 _ rfl; refine blk_put (cs := #[.int .i64 0, .slice none 0 0]) ?_ 0 _ rfl; exact BKE.out) Try.underlying28 rfl (by kernel_rfl)) rfl ?_
 exact ⟨_, rfl, Kd.R_lower (Kd.R_mono (Kd.R_far (p := ⟨gr, 1, none⟩) (Kd.R_far (p := ⟨gr, 0, none⟩) HOE.out (fun _ hk => hk.2) _) (fun _ hk => hk.2) _) (fun _ _ => trivial)) HB.out.size, Yi (Yi HBE.out GR.out) GR.out⟩
set_option maxHeartbeats 40000000 in
set_option maxRecDepth 100000 in
theorem impl_AddOr.calls (k : Nat) (a0_0 : Int) (A0_1 : Option Addr) (c0_1 : Nat) (l0_1 : List (S57)) (a1 : Int) (a2 : Int) (r1 : Int) (r2 : List (S57)) (r3 : Int) (w : World) (hr0_1 : Kd.C k57 w A0_1 l0_1.length l0_1) (hc0_1 : l0_1.length ≤ c0_1) (h : impl_AddOr.f k a0_0 l0_1 a1 a2 = some (r1, r2, r3)) :
  Calls Try.prog 14 #[.agg #[.int .i64 a0_0, .slice A0_1 l0_1.length c0_1], .int .i64 a1, .int .i64 a2] w fun e w' => ∃ v1_ : Value, e = .returned (.tuple #[.agg #[.int .i64 r1, v1_], .int .i64 r3]) ∧ Kd.R k57 57 w' w.heap.size (fun _ => True) v1_ (r2) ∧ Below w.heap.size w w' := by
 unfold impl_AddOr.f at h
 obtain ⟨t0, ht0, h⟩ := Option.bind_eq_some_iff.mp h
 cases t0 with
 | false =>
  rw [if_neg (by decide)] at h
  simp only [Option.some.injEq, Prod.mk.injEq] at h
  obtain ⟨rfl, rfl, rfl⟩ := h
  exact impl_AddOr.calls_a k a0_0 A0_1 c0_1 l0_1 a1 a2 w hr0_1 hc0_1 ht0
 | true =>
  rw [if_pos rfl] at h
  obtain ⟨t1, ht1, h⟩ := Option.bind_eq_some_iff.mp h
  cases t1 with
  | false =>
   rw [if_neg (by decide)] at h
   simp only [Option.some.injEq, Prod.mk.injEq] at h
   obtain ⟨rfl, rfl, rfl⟩ := h
   exact impl_AddOr.calls_b k a0_0 A0_1 c0_1 l0_1 a1 a2 w hr0_1 hc0_1 ht0 ht1
  | true =>
   rw [if_pos rfl] at h
   obtain ⟨t2, ht2, h⟩ := Option.bind_eq_some_iff.mp h
   cases t2 with
   | false =>
    rw [if_neg (by decide)] at h
    simp only [Option.some.injEq, Prod.mk.injEq] at h
    obtain ⟨rfl, rfl, rfl⟩ := h
    exact impl_AddOr.calls_c k a0_0 A0_1 c0_1 l0_1 a1 a2 w hr0_1 hc0_1 ht0 ht1 ht2
   | true =>
    rw [if_pos rfl] at h
    by_cases hg : impl_AddOr.good l0_1 a1 a2 = true
    ·rw [if_pos hg] at h
     unfold impl_AddOr.good at hg
     simp only [Bool.and_eq_true, decide_eq_true_eq, List.all_eq_true] at hg
     obtain ⟨⟨⟨hgd, hw1⟩, hw2⟩, hlen⟩ := hg
     cases hf : (impl_builder_or.f a0_0 l0_1 a1 a2).2.2 with
     | true =>
      rw [hf, if_pos rfl] at h
      simp only [Option.some.injEq, Prod.mk.injEq] at h
      obtain ⟨rfl, rfl, rfl⟩ := h
      exact impl_AddOr.calls_d k a0_0 A0_1 c0_1 l0_1 a1 a2 w hr0_1 hc0_1 ht0 ht1 ht2 hgd hw1 hw2 hlen hf
     | false =>
      rw [hf, if_neg (by decide)] at h
      simp only [Option.some.injEq, Prod.mk.injEq] at h
      obtain ⟨rfl, rfl, rfl⟩ := h
      exact impl_AddOr.calls_e k a0_0 A0_1 c0_1 l0_1 a1 a2 w hr0_1 hc0_1 ht0 ht1 ht2 hgd hw1 hw2 hlen hf
    ·rw [if_neg hg] at h
     cases h


/-- A state of type 71 at block g of W; what its slices lead to came in by w0. -/
def IsS71 (w0 W : World) (g : Nat) (f0 : List Int) (f1 : Int) : Prop := ∃ A0 c0, W.heap[g]? = some (.cells #[.slice A0 f0.length c0, .int .i64 f1] 71 (0, 0)) ∧ w0.heap.size ≤ g ∧ Kd.C (Kd.int .u8) w0 A0 f0.length f0
theorem IsS71.grown {w0 W : World} {g : Nat} {f0 : List Int} {f1 : Int} {W1 : World} {row : Option Nat} (h : IsS71 w0 W g f0 f1) (hw : W.grownBy W1 row) (hne : some g ≠ row) : IsS71 w0 W1 g f0 f1 := by
 obtain ⟨A0, c0, hb, hg, hr0⟩ := h
 exact ⟨A0, c0, blk_grown hb hw hne, hg, hr0⟩
theorem IsS71.own_neN {w0 W : World} {g : Nat} {f0 : List Int} {f1 : Int} {α : Type} {d : Kd α} {e : Nat} {base : Nat} {ok : Nat → Prop} {v : Value} {xs : List α} (h : IsS71 w0 W g f0 f1) (ho : Kd.N d e W base ok v xs) (ht : e ≠ 71) : some g ≠ v.ownBlock := by
 obtain ⟨A0, c0, hb, hg, hr0⟩ := h
 exact Kd.N_ne ho hb ht
theorem IsS71.fresh {w0 W : World} {g : Nat} {f0 : List Int} {f1 : Int} (h : IsS71 w0 W g f0 f1) : ∀ k, W.heap.size ≤ k → k ≠ g := by
 obtain ⟨A0, c0, hb, hg, hr0⟩ := h
 exact Kd.freshB hb
theorem IsS71.kept {w0 W : World} {g : Nat} {f0 : List Int} {f1 : Int} {W1 : World} {S : Nat → Prop} (h : IsS71 w0 W g f0 f1) (hk : Kept W W1 S) (hne : ¬ S g) : IsS71 w0 W1 g f0 f1 := by
 obtain ⟨A0, c0, hb, hg, hr0⟩ := h
 exact ⟨A0, c0, blk_kept hb hk hne, hg, hr0⟩
theorem IsS71.below {w0 W : World} {g : Nat} {f0 : List Int} {f1 : Int} {W1 : World} (h : IsS71 w0 W g f0 f1) (hw : Below W.heap.size W W1) : IsS71 w0 W1 g f0 f1 := h.grown (grown_of_below hw none) (by simp)
theorem IsS71.alloc {w0 W : World} {g : Nat} {f0 : List Int} {f1 : Int} (h : IsS71 w0 W g f0 f1) (o : Obj) : IsS71 w0 (W.alloc o) g f0 f1 := h.below (Yf (Below.refl _ _) o)
theorem IsS71.drewN {w0 W : World} {g : Nat} {f0 : List Int} {f1 : Int} (h : IsS71 w0 W g f0 f1) (m : Nat) : IsS71 w0 (W.drewN m) g f0 f1 := h
theorem IsS71.drew {w0 W : World} {g : Nat} {f0 : List Int} {f1 : Int} (h : IsS71 w0 W g f0 f1) : IsS71 w0 W.drew g f0 f1 := h
theorem IsS71.at_ {w0 W : World} {g : Nat} {f0 : List Int} {f1 : Int} {w' : World} {m : Nat} (hq : W.drewN m = w') (h : IsS71 w0 W g f0 f1) : IsS71 w0 w' g f0 f1 := by subst hq; exact IsS71.drewN h m
theorem IsS71.apart {w0 W : World} {g : Nat} {f0 : List Int} {f1 : Int} {α : Type} {d : Kd α} {e : Nat} {base : Nat} {ok : Nat → Prop} {v : Value} {xs : List α} (h : IsS71 w0 W g f0 f1) (ho : d.R e W base ok v xs) (ht : ∀ q, q ∈ e :: d.E → q ≠ 71) : d.R e W base (fun k => ok k ∧ k ≠ g) v xs := by
 obtain ⟨A0, c0, hb, hg, hr0⟩ := h
 exact Kd.R_types ho hb ht
theorem IsS71.own_ne {w0 W : World} {g : Nat} {f0 : List Int} {f1 : Int} {α : Type} {d : Kd α} {e : Nat} {base : Nat} {ok : Nat → Prop} {v : Value} {xs : List α} (h : IsS71 w0 W g f0 f1) (ho : d.R e W base ok v xs) (ht : e ≠ 71) : some g ≠ v.ownBlock := by
 obtain ⟨A0, c0, hb, hg, hr0⟩ := h
 exact Kd.R_ne ho hb ht
theorem IsS71.apartQ {w0 W : World} {g : Nat} {f0 : List Int} {f1 : Int} {α : Type} {d : Kd α} {e : Nat} {base : Nat} {ok : Nat → Prop} {v : Value} {xs : List α} (h : IsS71 w0 W g f0 f1) (ho : d.Q e W base ok v xs) (ht : ∀ q, q ∈ e :: d.E → q ≠ 71) : d.Q e W base (fun k => ok k ∧ k ≠ g) v xs := by
 obtain ⟨A0, c0, hb, hg, hr0⟩ := h
 exact Kd.Q_types ho hb ht
theorem IsS71.own_neQ {w0 W : World} {g : Nat} {f0 : List Int} {f1 : Int} {α : Type} {d : Kd α} {e : Nat} {base : Nat} {ok : Nat → Prop} {v : Value} {xs : List α} (h : IsS71 w0 W g f0 f1) (ho : d.Q e W base ok v xs) (ht : e ≠ 71) : some g ≠ v.ownBlock := by
 obtain ⟨A0, c0, hb, hg, hr0⟩ := h
 exact Kd.Q_ne ho hb ht
theorem IsS71.apartS {w0 W : World} {g : Nat} {f0 : List Int} {f1 : Int} {α : Type} {d : Kd α} {e : Nat} {base : Nat} {ok : Nat → Prop} {v : Value} {xs : List α} (h : IsS71 w0 W g f0 f1) (ho : d.S e W base ok v xs) (ht : ∀ q, q ∈ e :: d.E → q ≠ 71) : d.S e W base (fun k => ok k ∧ k ≠ g) v xs := by
 obtain ⟨A0, c0, hb, hg, hr0⟩ := h
 exact Kd.S_types ho hb ht
theorem IsS71.own_neS {w0 W : World} {g : Nat} {f0 : List Int} {f1 : Int} {α : Type} {d : Kd α} {e : Nat} {base : Nat} {ok : Nat → Prop} {v : Value} {xs : List α} (h : IsS71 w0 W g f0 f1) (ho : d.S e W base ok v xs) (ht : e ≠ 71) : some g ≠ v.ownBlock := by
 obtain ⟨A0, c0, hb, hg, hr0⟩ := h
 exact Kd.S_ne ho hb ht
theorem IsS71.lt {w0 W : World} {g : Nat} {f0 : List Int} {f1 : Int} (h : IsS71 w0 W g f0 f1) : g < W.heap.size := by
 obtain ⟨A0, c0, hb, hg, hr0⟩ := h
 exact blk_lt hb
theorem IsS71.ge {w0 W : World} {g : Nat} {f0 : List Int} {f1 : Int} (h : IsS71 w0 W g f0 f1) : w0.heap.size ≤ g := by
 obtain ⟨A0, c0, hb, hg, hr0⟩ := h
 exact hg
theorem IsS71.ne_blk {w0 W : World} {g : Nat} {f0 : List Int} {f1 : Int} {a : Nat} {cs : Array Value} {t : TypeId} {fr : Nat × Nat} (h : IsS71 w0 W g f0 f1) (hb2 : W.heap[a]? = some (.cells cs t fr)) (ht : t ≠ 71) : g ≠ a := by
 obtain ⟨A0, c0, hb, hg, hr0⟩ := h
 rintro rfl
 rw [hb] at hb2
 injection hb2 with hb2
 injection hb2 with _ ht2
 exact ht ht2.symm
theorem IsS71.far {w0 W : World} {g : Nat} {f0 : List Int} {f1 : Int} {p : Addr} (h : IsS71 w0 W g f0 f1) (hne : g ≠ p.block) (u : Value) : IsS71 w0 (W.setCell p u) g f0 f1 := by
 obtain ⟨A0, c0, hb, hg, hr0⟩ := h
 exact ⟨A0, c0, blk_far hb hne u, hg, hr0⟩
theorem cellS71_0 {W : World} {g : Nat} {A0 : Option Addr} {c0 : Nat} {f0 : List Int} {f1 : Int} (h : W.heap[g]? = some (.cells #[.slice A0 f0.length c0, .int .i64 f1] 71 (0, 0))) : W.cell? ⟨g, 0, none⟩ = some (.slice A0 f0.length c0) := (Yd h 0).trans rfl
theorem cellS71_1 {W : World} {g : Nat} {A0 : Option Addr} {c0 : Nat} {f0 : List Int} {f1 : Int} (h : W.heap[g]? = some (.cells #[.slice A0 f0.length c0, .int .i64 f1] 71 (0, 0))) : W.cell? ⟨g, 1, none⟩ = some (.int .i64 f1) := (Yd h 1).trans rfl
theorem IsS71.set_1 {w0 W : World} {g : Nat} {f0 : List Int} {f1 : Int} (h : IsS71 w0 W g f0 f1) (x : Int) : IsS71 w0 (W.setCell ⟨g, 1, none⟩ (.int .i64 x)) g f0 x := by
 obtain ⟨A0, c0, hb, hg, hr0⟩ := h
 exact ⟨A0, c0, by simpa using blk_set hb 1 (.int .i64 x), hg, hr0⟩
theorem IsS71.new (w0 W : World) (A0 : Option Addr) (c0 : Nat) (f0 : List Int) (f1 : Int) (hB : Below w0.heap.size w0 W) (hr0 : Kd.C (Kd.int .u8) w0 A0 f0.length f0) : IsS71 w0 (W.alloc (.cells #[.slice A0 f0.length c0, .int .i64 f1] 71)) W.heap.size f0 f1 := ⟨A0, c0, by simpa using heap_alloc_new W _, hB.size, hr0⟩

/-! ### spec_l40Open: function 33 -/
def spec_l40Open.f (l0 : List Int) : Option (List Int × Int) := if (l0.length : Int) > 2000 then (if 2000 ≤ (l0.length : Int) then (some (l0.take 2000, 0)) else (none)) else (some (l0, 0))
set_option maxHeartbeats 8000000 in
set_option maxRecDepth 100000 in
theorem spec_l40Open.calls (A0 : Option Addr) (c0 : Nat) (l0 : List Int) (r1 : List Int) (r2 : Int) (w0 w : World) (hB : Below w0.heap.size w0 w) (hr0 : Kd.C (Kd.int .u8) w0 A0 l0.length l0) (hc0 : l0.length ≤ c0) (h : spec_l40Open.f l0 = some (r1, r2)) :
  Calls Try.prog 33 #[.slice A0 l0.length c0] w fun e w' => ∃ g_ : Nat, e = .returned (.pointer (some ⟨g_, 0, none⟩)) ∧ IsS71 w0 w' g_ r1 r2 ∧ Below w0.heap.size w0 w' ∧ Below w.heap.size w w' := by
 have hu71 := Try.underlying71
 have HR0 := Yj hr0
 have HC0 := Yj hc0
 clear hr0 hc0
 have HBW := Yj (Below.refl w.heap.size w)
 have HW0 := Yj hB.size
 have HB := Yj hB
 clear hB
 have H : (if (l0.length : Int) > 2000 then (if 2000 ≤ (l0.length : Int) then (some (l0.take 2000, 0)) else (none)) else (some (l0, 0))) = some (r1, r2) := h
 clear h
 by_cases c2 : (l0.length : Int) > 2000
 ·rw [if_pos c2] at H
  have c2b0 : decide (2000 < (l0.length : Int)) = true := decide_eq_true c2
  have c2b1 : decide (2000 < l0.length) = true := decide_eq_true (by omega)
  clear c2
  by_cases c3 : 2000 ≤ (l0.length : Int)
  ·rw [if_pos c3] at H
   have c3b0 := eq_true c3
   have c3b1 : decide (2000 ≤ (l0.length : Int)) = true := decide_eq_true c3
   clear c3
   simp only [Option.some.injEq, Prod.mk.injEq] at H
   obtain ⟨rfl, rfl⟩ := H
   obtain ⟨i04, hi04, _, hsz4, _⟩ := info_parts info5
   obtain ⟨hcut4, hA4, hC4⟩ := print_take_of (P := Try.prog) (Value.int .u8) 0 35 5 .i64 Try.underlying35 hi04 hsz4 A0 c0 l0 2000 (by omega) (of_decide_eq_true (by first | (with_reducible assumption) | assumption)) HC0.out
   have HR158 := Yj (Kd.C_of_reads (h1 := fun _ => rfl) (hA4 _ (Kd.reads_of_C HR0.out)))
   have HC158 := Yj hC4
   clear hA4 hC4 hi04 hsz4
   go_enter Try.func33, Try.ntmps33
   go_wp2_with (first | ((with_reducible refine gate_dst (N := 10) rfl ?_); refine box_event ?hg (N := 10) ?hd (cs := #[.slice A0 (l0.take 2000).length c0, .int .i64 0]) (t := 71) ?hr ?_; (case hd => rfl); (case hg => rfl); (case hr => first | (go_simp; done) | (go_simp; rfl)); intro gb159 hg w5 hbox hb; have n0_ := Yj (below_step HBW.out hb); have n1_ := Yj (below_step (by repeat (first | (with_reducible first | exact HB.out | apply Yf | apply Yg | apply Yh) | exact HB.out)) hb); have n2_ := Yj (hbox); have n3_ := Yj ((by rw [hg]; exact (below_size (by repeat (first | (with_reducible first | exact HBW.out | apply Yf | apply Yg | apply Yh) | exact HBW.out))) : w.heap.size ≤ gb159)); have n4_ := Yj ((Nat.le_trans HW0.out (by rw [hg]; exact (below_size (by repeat (first | (with_reducible first | exact HBW.out | apply Yf | apply Yg | apply Yh) | exact HBW.out))) : w.heap.size ≤ gb159) : w0.heap.size ≤ gb159)); clear HBW; clear HB; have HBW := n0_; have HB := n1_; have BK159 := n2_; have GW159 := n3_; have GE159 := n4_; clear n0_ n1_ n2_ n3_ n4_; clear hb hbox hg))
   go_ret
   exact ⟨_, rfl, (show IsS71 w0 _ gb159 (l0.take 2000) 0 from ⟨_, _, by (with_reducible repeat (first | refine Ya ?_ _ | refine Yb ?_ | refine Yc ?_ _)); exact BK159.out, GE159.out, HR158.out⟩), by repeat (first | (with_reducible first | exact HB.out | apply Yf | apply Yg | apply Yh | refine Yi ?_ GE159.out) | exact HB.out), by repeat (first | (with_reducible first | exact HBW.out | apply Yf | apply Yg | apply Yh | refine Yi ?_ GW159.out) | exact HBW.out)⟩
  ·rw [if_neg c3] at H
   exact absurd H (by simp)
 ·rw [if_neg c2] at H
  have c2b0 : decide (2000 < (l0.length : Int)) = false := decide_eq_false c2
  have c2b1 : decide (2000 < l0.length) = false := decide_eq_false (by omega)
  clear c2
  simp only [Option.some.injEq, Prod.mk.injEq] at H
  obtain ⟨rfl, rfl⟩ := H
  go_enter Try.func33, Try.ntmps33
  go_wp2_with (first | ((with_reducible refine gate_dst (N := 10) rfl ?_); refine box_event ?hg (N := 10) ?hd (cs := #[.slice A0 l0.length c0, .int .i64 0]) (t := 71) ?hr ?_; (case hd => rfl); (case hg => rfl); (case hr => first | (go_simp; done) | (go_simp; rfl)); intro gb160 hg w6 hbox hb; have n0_ := Yj (below_step HBW.out hb); have n1_ := Yj (below_step (by repeat (first | (with_reducible first | exact HB.out | apply Yf | apply Yg | apply Yh) | exact HB.out)) hb); have n2_ := Yj (hbox); have n3_ := Yj ((by rw [hg]; exact (below_size (by repeat (first | (with_reducible first | exact HBW.out | apply Yf | apply Yg | apply Yh) | exact HBW.out))) : w.heap.size ≤ gb160)); have n4_ := Yj ((Nat.le_trans HW0.out (by rw [hg]; exact (below_size (by repeat (first | (with_reducible first | exact HBW.out | apply Yf | apply Yg | apply Yh) | exact HBW.out))) : w.heap.size ≤ gb160) : w0.heap.size ≤ gb160)); clear HBW; clear HB; have HBW := n0_; have HB := n1_; have BK160 := n2_; have GW160 := n3_; have GE160 := n4_; clear n0_ n1_ n2_ n3_ n4_; clear hb hbox hg))
  go_ret
  exact ⟨_, rfl, (show IsS71 w0 _ gb160 l0 0 from ⟨_, _, by (with_reducible repeat (first | refine Ya ?_ _ | refine Yb ?_ | refine Yc ?_ _)); exact BK160.out, GE160.out, HR0.out⟩), by repeat (first | (with_reducible first | exact HB.out | apply Yf | apply Yg | apply Yh | refine Yi ?_ GE160.out) | exact HB.out), by repeat (first | (with_reducible first | exact HBW.out | apply Yf | apply Yg | apply Yh | refine Yi ?_ GW160.out) | exact HBW.out)⟩

/-! ### spec_l40Rd_pick: function 35 -/
def spec_l40Rd_pick.j0 : Nat → Int → Bool → List Int → Int → Option (Int × Int)
 | 0, _, _, _, _ => none
 | k + 1, x1, x24, x1000, x1001 => if x24 = true then (some (0, x1001)) else (if (wrap64 (x1001 - 1)) < (x1000.length : Int) then (if 0 ≤ (wrap64 (x1001 - 1)) then (if x1 = 0 then (none) else (some (Int.tmod (wrap64 (rd x1000 (wrap64 (x1001 - 1)))) x1, x1001))) else (none)) else (if (x1000.length : Int) = 0 then (none) else (if 0 ≤ (Int.tmod (wrap64 (x1001 - 1)) (x1000.length : Int)) then (if (Int.tmod (wrap64 (x1001 - 1)) (x1000.length : Int)) < (x1000.length : Int) then (if 0 ≤ (Int.tmod (wrap64 ((wrap64 ((wrap64 (x1001 - 1)) * 7)) + 3)) (x1000.length : Int)) then (if (Int.tmod (wrap64 ((wrap64 ((wrap64 (x1001 - 1)) * 7)) + 3)) (x1000.length : Int)) < (x1000.length : Int) then (if x1 = 0 then (none) else (some (Int.tmod (Go.bits .xor .i64 (wrap64 ((wrap64 ((wrap64 ((wrap64 ((wrap64 (rd x1000 (Int.tmod (wrap64 (x1001 - 1)) (x1000.length : Int)))) * 131)) + (wrap64 ((wrap64 (rd x1000 (Int.tmod (wrap64 ((wrap64 ((wrap64 (x1001 - 1)) * 7)) + 3)) (x1000.length : Int)))) * 1117)))) + (wrap64 ((wrap64 (x1001 - 1)) * 29)))) + (wrap64 ((wrap64 (Int.tdiv (wrap64 (x1001 - 1)) (x1000.length : Int))) * 53)))) (wrap64 (Int.tdiv (wrap64 ((wrap64 ((wrap64 ((wrap64 ((wrap64 (rd x1000 (Int.tmod (wrap64 (x1001 - 1)) (x1000.length : Int)))) * 131)) + (wrap64 ((wrap64 (rd x1000 (Int.tmod (wrap64 ((wrap64 ((wrap64 (x1001 - 1)) * 7)) + 3)) (x1000.length : Int)))) * 1117)))) + (wrap64 ((wrap64 (x1001 - 1)) * 29)))) + (wrap64 ((wrap64 (Int.tdiv (wrap64 (x1001 - 1)) (x1000.length : Int))) * 53)))) 64))) x1, x1001))) else (none)) else (none)) else (none)) else (none))))
def spec_l40Rd_pick.f (k : Nat) (s0_0 : List Int) (s0_1 : Int) (a1 : Int) : Option (Int × Int) := if a1 < 1 then (spec_l40Rd_pick.j0 k a1 true s0_0 (wrap64 (s0_1 + 1))) else (spec_l40Rd_pick.j0 k a1 ((s0_0.length : Int) == 0) s0_0 (wrap64 (s0_1 + 1)))
theorem spec_l40Rd_pick.mono_l : ∀ k, (∀ y0 y1 y2 y3, LeO (spec_l40Rd_pick.j0 k y0 y1 y2 y3) (spec_l40Rd_pick.j0 (k + 1) y0 y1 y2 y3))
 | 0 => fun _ _ _ _ r h => by simp [spec_l40Rd_pick.j0] at h
 | k + 1 => by
  have ih0 := spec_l40Rd_pick.mono_l k
  ·intro y0 y1 y2 y3
   unfold spec_l40Rd_pick.j0
   repeat' first
   | (with_reducible exact ih0 _ _ _ _)
   | (with_reducible exact LeO.refl _)
   | (with_reducible exact LeO.none _)
   | (with_reducible refine LeO.ite ?_ ?_)
   | (with_reducible refine LeO.bind ?_ (fun _ => ?_))
   | exact ih0 _ _ _ _
   | exact LeO.none _
   | refine LeO.ite ?_ ?_
   | refine LeO.bind ?_ (fun _ => ?_)
theorem spec_l40Rd_pick.mono : ∀ a0 a1 a2 k, LeO (spec_l40Rd_pick.f k a0 a1 a2) (spec_l40Rd_pick.f (k + 1) a0 a1 a2) := by
 intro a0 a1 a2 k
 have ih0 := spec_l40Rd_pick.mono_l k
 unfold spec_l40Rd_pick.f
 repeat' first
   | (with_reducible exact ih0 _ _ _ _)
   | (with_reducible exact LeO.refl _)
   | (with_reducible exact LeO.none _)
   | (with_reducible refine LeO.ite ?_ ?_)
   | (with_reducible refine LeO.bind ?_ (fun _ => ?_))
   | exact ih0 _ _ _ _
   | exact LeO.none _
   | refine LeO.ite ?_ ?_
   | refine LeO.bind ?_ (fun _ => ?_)
set_option maxHeartbeats 8000000 in
set_option maxRecDepth 100000 in
theorem spec_l40Rd_pick.calls (k : Nat) (g : Nat) (s0_0 : List Int) (s0_1 : Int) (a1 : Int) (r1 : Int) (r2 : Int) (w0 w : World) (hI : IsS71 w0 w g s0_0 s0_1) (hB : Below w0.heap.size w0 w) (h : spec_l40Rd_pick.f k s0_0 s0_1 a1 = some (r1, r2)) :
  Calls Try.prog 35 #[.pointer (some ⟨g, 0, none⟩), .int .i64 a1] w fun e w' => e = .returned (.int .i64 r1) ∧ IsS71 w0 w' g s0_0 r2 ∧ Below w0.heap.size w0 w' ∧ KeepBut w w' g none := by
 have HI0 := Yj hI
 have HK := Yj (KeepBut.refl w g none)
 have HL := Yj hB.size
 clear hI
 have HW0 := Yj hB.size
 have HB := Yj hB
 clear hB
 have H : (if a1 < 1 then (spec_l40Rd_pick.j0 k a1 true s0_0 (wrap64 (s0_1 + 1))) else (spec_l40Rd_pick.j0 k a1 ((s0_0.length : Int) == 0) s0_0 (wrap64 (s0_1 + 1)))) = some (r1, r2) := h
 clear h
 have HC3 := Yj H
 clear H
 obtain ⟨ASz4_0, cSz4_0, HGz4, hgz4, HSz4_0⟩ := HI0.out
 have hcz4_0 := cellS71_0 HGz4
 have hcz4_1 := cellS71_1 HGz4
 have hfz4_1 := Ye HGz4 1
 clear HGz4 hgz4
 go_enter Try.func35, Try.ntmps35
 go_upto_region 2 with (fail)
 repeat (go_quiet (fail); go_upto_region 2 with (fail))
 go_cut [24] (fun v24 wc => ∃ (kq : Nat) (x24_2 : Bool), v24 = .bool x24_2 ∧ Aside0 (spec_l40Rd_pick.j0 kq a1 x24_2 s0_0 (wrap64 (s0_1 + 1)) = some (r1, r2)) ∧ Aside0 (kq ≤ k) ∧ Aside0 (IsS71 w0 wc g s0_0 (wrap64 (s0_1 + 1))) ∧ Aside0 (KeepBut w wc g none) ∧ Aside0 (Below w0.heap.size w0 wc))
 case first =>
  have H := HC3.out
  clear HC3
  by_cases c5 : a1 < 1
  ·rw [if_pos c5] at H
   have c5b0 : decide (a1 < 1) = true := decide_eq_true c5
   clear c5
   (first | rw [c5b0] | (simp only [i64_w, i32_w]; rw [c5b0]) | rw [c5b1] | simp only [c5b1] | skip)
   have H' := Yj H
   clear H
   go_wp2
   repeat (go_quiet (fail); try go_wp2)
   go_meet
   case rel => exact ⟨_, (true), (by first | rfl | (simp; done) | (simp [*]; done)), H', ⟨by first | omega | exact Nat.le_refl _⟩, ⟨by repeat (first | (with_reducible first | exact HI0.out | apply IsS71.alloc | apply IsS71.drewN | apply IsS71.drew | apply IsS71.set_1) | exact HI0.out)⟩, ⟨by repeat (first | (with_reducible first | exact HK.out | apply KeepBut.set_ | apply keep_drewN | apply keep_drew | apply keep_alloc) | exact HK.out)⟩, ⟨by repeat (first | (with_reducible first | exact HB.out | apply Yf | apply Yg | apply Yh | refine Yi ?_ (IsS71.ge HI0.out)) | exact HB.out)⟩⟩
  ·rw [if_neg c5] at H
   have c5b0 : decide (a1 < 1) = false := decide_eq_false c5
   clear c5
   (first | rw [c5b0] | (simp only [i64_w, i32_w]; rw [c5b0]) | rw [c5b1] | simp only [c5b1] | skip)
   have H' := Yj H
   clear H
   obtain ⟨ASz6_0, cSz6_0, HGz6, hgz6, HSz6_0⟩ := HI0.out
   have hcz6_0 := cellS71_0 HGz6
   have hcz6_1 := cellS71_1 HGz6
   have hfz6_1 := Ye HGz6 1
   clear HGz6 hgz6
   go_wp2
   repeat (go_quiet (fail); try go_wp2)
   go_meet
   case rel => exact ⟨_, (((s0_0.length : Int) == 0)), (by first | rfl | (simp; done) | (simp [*]; done)), H', ⟨by first | omega | exact Nat.le_refl _⟩, ⟨by repeat (first | (with_reducible first | exact HI0.out | apply IsS71.alloc | apply IsS71.drewN | apply IsS71.drew | apply IsS71.set_1) | exact HI0.out)⟩, ⟨by repeat (first | (with_reducible first | exact HK.out | apply KeepBut.set_ | apply keep_drewN | apply keep_drew | apply keep_alloc) | exact HK.out)⟩, ⟨by repeat (first | (with_reducible first | exact HB.out | apply Yf | apply Yg | apply Yh | refine Yi ?_ (IsS71.ge HI0.out)) | exact HB.out)⟩⟩
 case rest =>
  clear HC3
  try clear p2
  try clear c3
  try clear c5
  try clear c5b0
  try clear c5b1
  try clear p6
  try clear hcz4_0
  try clear hcz4_1
  try clear hcz6_0
  try clear hcz6_1
  try clear hfz4_1
  try clear hfz6_1
  obtain ⟨kq, x24_2, rfl, HA, HJ2, HI0, HK, HB⟩ := hcut
  cases kq with
  | zero => exact absurd HA.out (by simp [spec_l40Rd_pick.j0])
  | succ kj2 =>
   have H := HA.out
   clear HA
   simp only [spec_l40Rd_pick.j0] at H
   by_cases c7 : x24_2 = true
   ·subst c7
    have H1 : (some (0, (wrap64 (s0_1 + 1)))) = some (r1, r2) := by rw [if_pos rfl] at H; exact H
    clear H
    have H := H1
    clear H1
    simp only [Option.some.injEq, Prod.mk.injEq] at H
    obtain ⟨rfl, rfl⟩ := H
    go_wp2
    repeat (go_quiet (fail); try go_wp2)
    go_ret
    exact ⟨by first | rfl | (simp [errW_none, errW_some] <;> rfl) | (simp [*, errW_none, errW_some] <;> rfl), by repeat (first | (with_reducible first | exact HI0.out | apply IsS71.alloc | apply IsS71.drewN | apply IsS71.drew | apply IsS71.set_1) | exact HI0.out), by repeat (first | (with_reducible first | exact HB.out | apply Yf | apply Yg | apply Yh | refine Yi ?_ (IsS71.ge HI0.out)) | exact HB.out), by repeat (first | (with_reducible first | exact HK.out | apply KeepBut.set_ | apply keep_drewN | apply keep_drew | apply keep_alloc) | exact HK.out)⟩
   ·replace c7 := Bool.eq_false_iff.mpr c7
    subst c7
    have H1 : (if (wrap64 ((wrap64 (s0_1 + 1)) - 1)) < (s0_0.length : Int) then (if 0 ≤ (wrap64 ((wrap64 (s0_1 + 1)) - 1)) then (if a1 = 0 then (none) else (some (Int.tmod (wrap64 (rd s0_0 (wrap64 ((wrap64 (s0_1 + 1)) - 1)))) a1, (wrap64 (s0_1 + 1))))) else (none)) else (if (s0_0.length : Int) = 0 then (none) else (if 0 ≤ (Int.tmod (wrap64 ((wrap64 (s0_1 + 1)) - 1)) (s0_0.length : Int)) then (if (Int.tmod (wrap64 ((wrap64 (s0_1 + 1)) - 1)) (s0_0.length : Int)) < (s0_0.length : Int) then (if 0 ≤ (Int.tmod (wrap64 ((wrap64 ((wrap64 ((wrap64 (s0_1 + 1)) - 1)) * 7)) + 3)) (s0_0.length : Int)) then (if (Int.tmod (wrap64 ((wrap64 ((wrap64 ((wrap64 (s0_1 + 1)) - 1)) * 7)) + 3)) (s0_0.length : Int)) < (s0_0.length : Int) then (if a1 = 0 then (none) else (some (Int.tmod (Go.bits .xor .i64 (wrap64 ((wrap64 ((wrap64 ((wrap64 ((wrap64 (rd s0_0 (Int.tmod (wrap64 ((wrap64 (s0_1 + 1)) - 1)) (s0_0.length : Int)))) * 131)) + (wrap64 ((wrap64 (rd s0_0 (Int.tmod (wrap64 ((wrap64 ((wrap64 ((wrap64 (s0_1 + 1)) - 1)) * 7)) + 3)) (s0_0.length : Int)))) * 1117)))) + (wrap64 ((wrap64 ((wrap64 (s0_1 + 1)) - 1)) * 29)))) + (wrap64 ((wrap64 (Int.tdiv (wrap64 ((wrap64 (s0_1 + 1)) - 1)) (s0_0.length : Int))) * 53)))) (wrap64 (Int.tdiv (wrap64 ((wrap64 ((wrap64 ((wrap64 ((wrap64 (rd s0_0 (Int.tmod (wrap64 ((wrap64 (s0_1 + 1)) - 1)) (s0_0.length : Int)))) * 131)) + (wrap64 ((wrap64 (rd s0_0 (Int.tmod (wrap64 ((wrap64 ((wrap64 ((wrap64 (s0_1 + 1)) - 1)) * 7)) + 3)) (s0_0.length : Int)))) * 1117)))) + (wrap64 ((wrap64 ((wrap64 (s0_1 + 1)) - 1)) * 29)))) + (wrap64 ((wrap64 (Int.tdiv (wrap64 ((wrap64 (s0_1 + 1)) - 1)) (s0_0.length : Int))) * 53)))) 64))) a1, (wrap64 (s0_1 + 1))))) else (none)) else (none)) else (none)) else (none)))) = some (r1, r2) := by rw [if_neg (show ¬ (false = true) by decide)] at H; exact H
    clear H
    have H := H1
    clear H1
    by_cases c8 : (wrap64 ((wrap64 (s0_1 + 1)) - 1)) < (s0_0.length : Int)
    ·rw [if_pos c8] at H
     have c8b0 : decide ((wrap64 ((wrap64 (s0_1 + 1)) - 1)) < (s0_0.length : Int)) = true := decide_eq_true c8
     clear c8
     obtain ⟨ji9, hji9⟩ : ∃ j_ : Int, (wrap64 ((wrap64 (s0_1 + 1)) - 1)) = j_ := ⟨_, rfl⟩
     replace H : (if 0 ≤ (ji9) then (if a1 = 0 then (none) else (some (Int.tmod (wrap64 (rd s0_0 (ji9))) a1, (wrap64 (s0_1 + 1))))) else (none)) = some (r1, r2) := by first | (rw [hji9] at H; exact H) | (simp only [hji9] at H ⊢; exact H)
     (try rw [hji9] at c8b0)
     have hji9w : (IntKind.i64.wrap ((wrap64 (s0_1 + 1)) - 1)) = ji9 := (i64_w _).trans hji9
     by_cases c10 : 0 ≤ (ji9)
     ·rw [if_pos c10] at H
      have c10b0 : decide (0 ≤ (ji9)) = true := decide_eq_true c10
      clear c10
      by_cases c11 : a1 = 0
      ·rw [if_pos c11] at H
       exact absurd H (by simp)
      ·rw [if_neg c11] at H
       have c11b0 : (a1 == 0) = false := beq_eq_false_iff_ne.mpr c11
       have c11b1 : (a1 != 0) = true := bne_iff_ne.mpr c11
       simp only [Option.some.injEq, Prod.mk.injEq] at H
       obtain ⟨rfl, rfl⟩ := H
       obtain ⟨ASz12_0, cSz12_0, HGz12, hgz12, HSz12_0⟩ := HI0.out
       have hcz12_0 := cellS71_0 HGz12
       have hcz12_1 := cellS71_1 HGz12
       have hfz12_1 := Ye HGz12 1
       clear HGz12 hgz12
       have p161 : 0 ≤ ((ji9) : Int) := of_decide_eq_true (by first | (with_reducible assumption) | assumption)
       have q161 : (ji9) < (s0_0.length : Int) := of_decide_eq_true (by first | (with_reducible assumption) | assumption)
       obtain ⟨ad161, e161, hx161_0⟩ := Kd.at_int HSz12_0 (ji9) p161 q161
       cases e161
       replace hx161_0 := pw_cell_below HB.out hx161_0
       replace p161 := eq_true p161
       replace q161 := eq_true q161
       go_wp2
       repeat (go_quiet (fail); try go_wp2)
       go_ret
       exact ⟨by first | rfl | (simp [errW_none, errW_some] <;> rfl) | (simp only [← hji9]; first | rfl | (simp [errW_none, errW_some] <;> rfl)) | (simp [*, errW_none, errW_some] <;> rfl), by repeat (first | (with_reducible first | exact HI0.out | apply IsS71.alloc | apply IsS71.drewN | apply IsS71.drew | apply IsS71.set_1) | exact HI0.out), by repeat (first | (with_reducible first | exact HB.out | apply Yf | apply Yg | apply Yh | refine Yi ?_ (IsS71.ge HI0.out)) | exact HB.out), by repeat (first | (with_reducible first | exact HK.out | apply KeepBut.set_ | apply keep_drewN | apply keep_drew | apply keep_alloc) | exact HK.out)⟩
     ·rw [if_neg c10] at H
      exact absurd H (by simp)
    ·rw [if_neg c8] at H
     have c8b0 : decide ((wrap64 ((wrap64 (s0_1 + 1)) - 1)) < (s0_0.length : Int)) = false := decide_eq_false c8
     clear c8
     by_cases c13 : (s0_0.length : Int) = 0
     ·rw [if_pos c13] at H
      exact absurd H (by simp)
     ·rw [if_neg c13] at H
      have c13b0 : ((s0_0.length : Int) == 0) = false := beq_eq_false_iff_ne.mpr c13
      have c13b1 : ((s0_0.length : Int) != 0) = true := bne_iff_ne.mpr c13
      have c13b2 : ¬ (s0_0 = []) := fun h_ => c13 (by rw [h_]; rfl)
      obtain ⟨ji14, hji14⟩ : ∃ j_ : Int, (Int.tmod (wrap64 ((wrap64 (s0_1 + 1)) - 1)) (s0_0.length : Int)) = j_ := ⟨_, rfl⟩
      replace H : (if 0 ≤ (ji14) then (if (ji14) < (s0_0.length : Int) then (if 0 ≤ (Int.tmod (wrap64 ((wrap64 ((wrap64 ((wrap64 (s0_1 + 1)) - 1)) * 7)) + 3)) (s0_0.length : Int)) then (if (Int.tmod (wrap64 ((wrap64 ((wrap64 ((wrap64 (s0_1 + 1)) - 1)) * 7)) + 3)) (s0_0.length : Int)) < (s0_0.length : Int) then (if a1 = 0 then (none) else (some (Int.tmod (Go.bits .xor .i64 (wrap64 ((wrap64 ((wrap64 ((wrap64 ((wrap64 (rd s0_0 (ji14))) * 131)) + (wrap64 ((wrap64 (rd s0_0 (Int.tmod (wrap64 ((wrap64 ((wrap64 ((wrap64 (s0_1 + 1)) - 1)) * 7)) + 3)) (s0_0.length : Int)))) * 1117)))) + (wrap64 ((wrap64 ((wrap64 (s0_1 + 1)) - 1)) * 29)))) + (wrap64 ((wrap64 (Int.tdiv (wrap64 ((wrap64 (s0_1 + 1)) - 1)) (s0_0.length : Int))) * 53)))) (wrap64 (Int.tdiv (wrap64 ((wrap64 ((wrap64 ((wrap64 ((wrap64 (rd s0_0 (ji14))) * 131)) + (wrap64 ((wrap64 (rd s0_0 (Int.tmod (wrap64 ((wrap64 ((wrap64 ((wrap64 (s0_1 + 1)) - 1)) * 7)) + 3)) (s0_0.length : Int)))) * 1117)))) + (wrap64 ((wrap64 ((wrap64 (s0_1 + 1)) - 1)) * 29)))) + (wrap64 ((wrap64 (Int.tdiv (wrap64 ((wrap64 (s0_1 + 1)) - 1)) (s0_0.length : Int))) * 53)))) 64))) a1, (wrap64 (s0_1 + 1))))) else (none)) else (none)) else (none)) else (none)) = some (r1, r2) := by first | (rw [hji14] at H; exact H) | (simp only [hji14] at H ⊢; exact H)
      by_cases c15 : 0 ≤ (ji14)
      ·rw [if_pos c15] at H
       have c15b0 : decide (0 ≤ (ji14)) = true := decide_eq_true c15
       clear c15
       by_cases c16 : (ji14) < (s0_0.length : Int)
       ·rw [if_pos c16] at H
        have c16b0 : decide ((ji14) < (s0_0.length : Int)) = true := decide_eq_true c16
        clear c16
        obtain ⟨ji17, hji17⟩ : ∃ j_ : Int, (Int.tmod (wrap64 ((wrap64 ((wrap64 ((wrap64 (s0_1 + 1)) - 1)) * 7)) + 3)) (s0_0.length : Int)) = j_ := ⟨_, rfl⟩
        replace H : (if 0 ≤ (ji17) then (if (ji17) < (s0_0.length : Int) then (if a1 = 0 then (none) else (some (Int.tmod (Go.bits .xor .i64 (wrap64 ((wrap64 ((wrap64 ((wrap64 ((wrap64 (rd s0_0 (ji14))) * 131)) + (wrap64 ((wrap64 (rd s0_0 (ji17))) * 1117)))) + (wrap64 ((wrap64 ((wrap64 (s0_1 + 1)) - 1)) * 29)))) + (wrap64 ((wrap64 (Int.tdiv (wrap64 ((wrap64 (s0_1 + 1)) - 1)) (s0_0.length : Int))) * 53)))) (wrap64 (Int.tdiv (wrap64 ((wrap64 ((wrap64 ((wrap64 ((wrap64 (rd s0_0 (ji14))) * 131)) + (wrap64 ((wrap64 (rd s0_0 (ji17))) * 1117)))) + (wrap64 ((wrap64 ((wrap64 (s0_1 + 1)) - 1)) * 29)))) + (wrap64 ((wrap64 (Int.tdiv (wrap64 ((wrap64 (s0_1 + 1)) - 1)) (s0_0.length : Int))) * 53)))) 64))) a1, (wrap64 (s0_1 + 1))))) else (none)) else (none)) = some (r1, r2) := by first | (rw [hji17] at H; exact H) | (simp only [hji17] at H ⊢; exact H)
        by_cases c18 : 0 ≤ (ji17)
        ·rw [if_pos c18] at H
         have c18b0 : decide (0 ≤ (ji17)) = true := decide_eq_true c18
         clear c18
         by_cases c19 : (ji17) < (s0_0.length : Int)
         ·rw [if_pos c19] at H
          have c19b0 : decide ((ji17) < (s0_0.length : Int)) = true := decide_eq_true c19
          clear c19
          by_cases c20 : a1 = 0
          ·rw [if_pos c20] at H
           exact absurd H (by simp)
          ·rw [if_neg c20] at H
           have c20b0 : (a1 == 0) = false := beq_eq_false_iff_ne.mpr c20
           have c20b1 : (a1 != 0) = true := bne_iff_ne.mpr c20
           simp only [Option.some.injEq, Prod.mk.injEq] at H
           obtain ⟨rfl, rfl⟩ := H
           obtain ⟨ASz21_0, cSz21_0, HGz21, hgz21, HSz21_0⟩ := HI0.out
           have hcz21_0 := cellS71_0 HGz21
           have hcz21_1 := cellS71_1 HGz21
           have hfz21_1 := Ye HGz21 1
           clear HGz21 hgz21
           have p162 : 0 ≤ ((ji14) : Int) := of_decide_eq_true (by first | (with_reducible assumption) | assumption)
           have q162 : (ji14) < (s0_0.length : Int) := of_decide_eq_true (by first | (with_reducible assumption) | assumption)
           obtain ⟨ad162, e162, hx162_0⟩ := Kd.at_int HSz21_0 (ji14) p162 q162
           cases e162
           replace hx162_0 := pw_cell_below HB.out hx162_0
           replace p162 := eq_true p162
           replace q162 := eq_true q162
           have p163 : 0 ≤ ((ji17) : Int) := of_decide_eq_true (by first | (with_reducible assumption) | assumption)
           have q163 : (ji17) < (s0_0.length : Int) := of_decide_eq_true (by first | (with_reducible assumption) | assumption)
           obtain ⟨ad163, e163, hx163_0⟩ := Kd.at_int HSz21_0 (ji17) p163 q163
           obtain rfl : ad162 = ad163 := (by injection e163)
           replace hx163_0 := pw_cell_below HB.out hx163_0
           replace p163 := eq_true p163
           replace q163 := eq_true q163
           go_wp2
           repeat (go_quiet (fail); try go_wp2)
           go_ret
           exact ⟨by first | rfl | (simp [errW_none, errW_some] <;> rfl) | (simp only [← hji14, ← hji17]; first | rfl | (simp [errW_none, errW_some] <;> rfl)) | (simp [*, errW_none, errW_some] <;> rfl), by repeat (first | (with_reducible first | exact HI0.out | apply IsS71.alloc | apply IsS71.drewN | apply IsS71.drew | apply IsS71.set_1) | exact HI0.out), by repeat (first | (with_reducible first | exact HB.out | apply Yf | apply Yg | apply Yh | refine Yi ?_ (IsS71.ge HI0.out)) | exact HB.out), by repeat (first | (with_reducible first | exact HK.out | apply KeepBut.set_ | apply keep_drewN | apply keep_drew | apply keep_alloc) | exact HK.out)⟩
         ·rw [if_neg c19] at H
          exact absurd H (by simp)
        ·rw [if_neg c18] at H
         exact absurd H (by simp)
       ·rw [if_neg c16] at H
        exact absurd H (by simp)
      ·rw [if_neg c15] at H
       exact absurd H (by simp)

/-! ### spec_l40Rd_num: function 47 -/
def spec_l40Rd_num.f (k : Nat) (s0_0 : List Int) (s0_1 : Int) (l1 : List Int) : Option (Int × Int) := (spec_l40Rd_pick.f k s0_0 s0_1 (l1.length : Int)).bind fun bt164 => (if 0 ≤ bt164.1 then (if bt164.1 < (l1.length : Int) then (some (rd l1 bt164.1, bt164.2)) else (none)) else (none))
theorem spec_l40Rd_num.mono : ∀ a0 a1 a2 k, LeO (spec_l40Rd_num.f k a0 a1 a2) (spec_l40Rd_num.f (k + 1) a0 a1 a2) := by
 intro a0 a1 a2 k
 unfold spec_l40Rd_num.f
 repeat' first
   | (with_reducible exact spec_l40Rd_pick.mono _ _ _ _)
   | (with_reducible exact LeO.refl _)
   | (with_reducible exact LeO.none _)
   | (with_reducible refine LeO.ite ?_ ?_)
   | (with_reducible refine LeO.bind ?_ (fun _ => ?_))
   | exact spec_l40Rd_pick.mono _ _ _ _
   | exact LeO.none _
   | refine LeO.ite ?_ ?_
   | refine LeO.bind ?_ (fun _ => ?_)
set_option maxHeartbeats 8000000 in
set_option maxRecDepth 100000 in
theorem spec_l40Rd_num.calls (k : Nat) (g : Nat) (s0_0 : List Int) (s0_1 : Int) (A1 : Option Addr) (c1 : Nat) (l1 : List Int) (r1 : Int) (r2 : Int) (w0 w : World) (hI : IsS71 w0 w g s0_0 s0_1) (hB : Below w0.heap.size w0 w) (hr1 : Kd.C (Kd.int .i64) w A1 l1.length l1) (hc1 : l1.length ≤ c1) (hf1 : ∀ ad, A1 = some ad → 0 < l1.length → ad.block ≠ g) (h : spec_l40Rd_num.f k s0_0 s0_1 l1 = some (r1, r2)) :
  Calls Try.prog 47 #[.pointer (some ⟨g, 0, none⟩), .slice A1 l1.length c1] w fun e w' => e = .returned (.int .i64 r1) ∧ IsS71 w0 w' g s0_0 r2 ∧ Below w0.heap.size w0 w' ∧ KeepBut w w' g none := by
 have HR1 := Yj hr1
 have HC1 := Yj hc1
 clear hr1 hc1
 have HI0 := Yj hI
 have HK := Yj (KeepBut.refl w g none)
 have HL := Yj hB.size
 clear hI
 have HW0 := Yj hB.size
 have HB := Yj hB
 clear hB
 have H : ((spec_l40Rd_pick.f k s0_0 s0_1 (l1.length : Int)).bind fun bt164 => (if 0 ≤ bt164.1 then (if bt164.1 < (l1.length : Int) then (some (rd l1 bt164.1, bt164.2)) else (none)) else (none))) = some (r1, r2) := h
 clear h
 replace H := Option.bind_eq_some_iff.mp H
 obtain ⟨⟨t164, t165⟩, A30, H⟩ := H
 replace H : (if 0 ≤ t164 then (if t164 < (l1.length : Int) then (some (rd l1 t164, t165)) else (none)) else (none)) = some (r1, r2) := H
 have A3 := Yj A30
 clear A30
 by_cases c4 : 0 ≤ t164
 ·rw [if_pos c4] at H
  have c4b0 : decide (0 ≤ t164) = true := decide_eq_true c4
  clear c4
  by_cases c5 : t164 < (l1.length : Int)
  ·rw [if_pos c5] at H
   have c5b0 : decide (t164 < (l1.length : Int)) = true := decide_eq_true c5
   clear c5
   simp only [Option.some.injEq, Prod.mk.injEq] at H
   obtain ⟨rfl, rfl⟩ := H
   go_enter Try.func47, Try.ntmps47
   go_wp2_with (first | ((with_reducible refine gate_callee (f := 35) rfl ?_); refine goesL_ (some 9) rfl rfl Try.func35 (by kernel_rfl) rfl #[.pointer (some ⟨g, 0, none⟩), .int .i64 (l1.length : Int)] rfl (by (try simp only [List.map_toArray, List.map_cons, List.map_nil]); first | done | rfl | (simp only [List.length_drop, List.length_take]; rfl)) ?_; (with_reducible refine (spec_l40Rd_pick.calls k g s0_0 s0_1 (l1.length : Int) t164 t165 w0 _ ?side1 ?side2 A3.out).mono ?_); (case side1 => repeat (first | (with_reducible first | exact HI0.out | apply IsS71.alloc | apply IsS71.drewN | apply IsS71.drew | apply IsS71.set_1) | exact HI0.out)); (case side2 => repeat (first | (with_reducible first | exact HB.out | apply Yf | apply Yg | apply Yh | refine Yi ?_ (IsS71.ge HI0.out)) | exact HB.out)); rintro e w6 ⟨rfl, hi, hb, hk⟩; refine ⟨_, rfl, ?_⟩; have n0_ := Yj (KeepBut.trans (by repeat (first | (with_reducible first | exact HK.out | apply KeepBut.set_ | apply keep_drewN | apply keep_drew | apply keep_alloc) | exact HK.out)) hk (.inl rfl)); have n1_ := Yj (hb); have n2_ := Yj (hi); clear HK; clear HB; clear HI0; have HK := n0_; have HB := n1_; have HI0 := n2_; clear n0_ n1_ n2_; (try clear hb); (try clear hb2); (try clear hk); (try clear hi); have p166 : 0 ≤ (t164 : Int) := of_decide_eq_true (by first | (with_reducible assumption) | assumption); have q166 : t164 < (l1.length : Int) := of_decide_eq_true (by first | (with_reducible assumption) | assumption); obtain ⟨ad166, e166, hx166_0⟩ := Kd.at_int HR1.out t164 p166 q166; cases e166; replace hx166_0 := keep_cell HK.out hx166_0 (by first | (rw [add_block]; exact hf1 _ rfl (by omega)) | exact hf1 _ rfl (by omega) | exact hf1 ad166 rfl (by omega)); replace p166 := eq_true p166; replace q166 := eq_true q166))
   go_ret
   exact ⟨by first | rfl | (simp [errW_none, errW_some] <;> rfl) | (simp [*, errW_none, errW_some] <;> rfl), by repeat (first | (with_reducible first | exact HI0.out | apply IsS71.alloc | apply IsS71.drewN | apply IsS71.drew | apply IsS71.set_1) | exact HI0.out), by repeat (first | (with_reducible first | exact HB.out | apply Yf | apply Yg | apply Yh | refine Yi ?_ (IsS71.ge HI0.out)) | exact HB.out), by repeat (first | (with_reducible first | exact HK.out | apply KeepBut.set_ | apply keep_drewN | apply keep_drew | apply keep_alloc) | exact HK.out)⟩
  ·rw [if_neg c5] at H
   exact absurd H (by simp)
 ·rw [if_neg c4] at H
  exact absurd H (by simp)

end Go.Proofs.Ythphgkhmeobadaa.XFnAddAndOr
