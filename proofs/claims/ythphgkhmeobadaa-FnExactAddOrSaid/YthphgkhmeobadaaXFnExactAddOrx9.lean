/- Printed by a program of this session out of the translation: the Go functions that a law uses as plain Lean functions, with the proofs of their calls, or the law's row.
Conditions: those that each theorem states. -/
import Derived.Test.YthphgkhmeobadaaXFnExactAddOrx0
import Derived.Test.YthphgkhmeobadaaXFnExactAddOrx5
import Derived.Test.YthphgkhmeobadaaXFnExactAddOrx6
import Derived.Test.YthphgkhmeobadaaXFnExactAddOrx7
import Derived.Test.YthphgkhmeobadaaXFnExactAddOrx8
namespace Go.Proofs.Ythphgkhmeobadaa.XFnExactAddOr
open Go.RowKit Go.Proofs.YthphgkhmeobadaaW.PrintWords Go.Proofs.YthphgkhmeobadaaW.PrintLast Go.Proofs.YthphgkhmeobadaaW.PrintMore
attribute [local go_sem] max2_int min2_int max_two min_two max_three min_three max_four min_four   -- for this text's walks alone
set_option linter.unusedVariables false
set_option linter.unusedSimpArgs false

/-! ### impl_builder_or: function 32 (by hand) -/
def impl_builder_or.f (n : Int) (l : List S57) (x y : Int) : Int × List S57 × Bool := (Go.bits .xor .i64 (impl_builder_and.f n l (Go.bits .xor .i64 x 1) (Go.bits .xor .i64 y 1)).1 1, (impl_builder_and.f n l (Go.bits .xor .i64 x 1) (Go.bits .xor .i64 y 1)).2)
theorem impl_builder_or.xor_wf (x : Int) : (Lit.int .i64 (Go.bits .xor .i64 x 1)).wf = true := by
  have h : Go.bits .xor .i64 x 1 = IntKind.i64.wrap (((BitVec.ofInt 64 x ^^^ BitVec.ofInt 64 1).toNat : Nat) : Int) := rfl
  rw [h, i64_w]
  exact impl_builder_and.wrap_wf _
theorem impl_builder_or.f_len (n : Int) (l : List S57) (x y : Int) (h : l.length ≤ 600) : (impl_builder_or.f n l x y).2.1.length ≤ 601 := impl_builder_and.f_len _ _ _ _ h
set_option maxHeartbeats 40000000 in
set_option maxRecDepth 100000 in
theorem impl_builder_or.calls (a0 : Int) (l : List S57) (x y : Int) (gb bm : Nat) (A1 : Option Addr) (c1 : Nat) (w0 w : World) (hb : Below w0.heap.size w0 w) (hbk : w.heap[gb]? = some (.cells #[.int .i64 a0, .slice A1 l.length c1, .map (some bm), .bool false] 67 (0, 0))) (ho : Kd.R k57 57 w w0.heap.size (fun _ => True) (.slice A1 l.length c1) l) (hm : Go.Proofs.YthphgkhmeobadaaX.MapF impl_building.key impl_building.elem w bm l.length (impl_building.seen a0 l l.length)) (hgb : w0.heap.size ≤ gb) (hbm : w0.heap.size ≤ bm) (hlen : l.length ≤ 600) :
    Calls Try.prog 32 #[.pointer (some ⟨gb, 0, none⟩), .int .i64 x, .int .i64 y] w fun e w' => e = .returned (.int .i64 ((impl_builder_or.f a0 l x y).1)) ∧ ∃ (A2 : Option Addr) (c2 : Nat), w'.heap[gb]? = some (.cells #[.int .i64 a0, .slice A2 ((impl_builder_or.f a0 l x y).2.1).length c2, .map (some bm), .bool ((impl_builder_or.f a0 l x y).2.2)] 67 (0, 0)) ∧ Kd.R k57 57 w' w0.heap.size (fun _ => True) (.slice A2 ((impl_builder_or.f a0 l x y).2.1).length c2) ((impl_builder_or.f a0 l x y).2.1) ∧ Below w0.heap.size w0 w' := by
  have HB := Aside0.mk hb
  have BKB := Aside0.mk hbk
  have HO := Aside0.mk ho
  have HM := Aside0.mk hm
  have GB := Aside0.mk hgb
  have GM := Aside0.mk hbm
  have HLN := Aside0.mk hlen
  clear hb hbk ho hm hgb hbm
  have hwx := impl_builder_or.xor_wf x
  have hwy := impl_builder_or.xor_wf y
  go_enter Try.func32, Try.ntmps32
  go_wp2_with (first | (go_at_call 27; with_reducible refine (impl_builder_and.calls a0 l (Go.bits .xor .i64 x 1) (Go.bits .xor .i64 y 1) gb bm A1 c1 w0 _ HB.out BKB.out HO.out HM.out GB.out GM.out HLN.out hwx hwy).mono ?_; rintro e w9 ⟨rfl, A2, c2, bkb, ho, hb⟩; clear HB BKB HO HM; have HB := Aside0.mk hb; have BKB := Aside0.mk bkb; have HO := Aside0.mk ho; clear hb bkb ho))
  go_ret
  exact ⟨rfl, A2, c2, BKB.out, HO.out, HB.out⟩

/-! ### impl_AddOr: function 14 (by hand) -/
def impl_AddOr.good (l : List S57) (a b : Int) : Bool := l.all (fun y => (Lit.int .i64 y.f0).wf && (Lit.int .i64 y.f1).wf) && (Lit.int .i64 a).wf && (Lit.int .i64 b).wf && decide (l.length ≤ 600)
def impl_AddOr.f (k : Nat) (a0_0 : Int) (l0_1 : List (S57)) (a1 : Int) (a2 : Int) : Option (Int × (List (S57)) × Int) := (impl_CircuitValid.f k a0_0 l0_1).bind fun t => if t = true then ((impl_Circuit_isEdge.f a0_0 l0_1 a1).bind fun t1 => if t1 = true then ((impl_Circuit_isEdge.f a0_0 l0_1 a2).bind fun t2 => if t2 = true then (if impl_AddOr.good l0_1 a1 a2 = true then some (if (impl_builder_or.f a0_0 l0_1 a1 a2).2.2 = true then (0, [], -1) else (a0_0, (impl_builder_or.f a0_0 l0_1 a1 a2).2.1, (impl_builder_or.f a0_0 l0_1 a1 a2).1)) else none) else some (0, [], -1)) else some (0, [], -1)) else some (0, [], -1)
theorem impl_AddOr.mono : ∀ a0 a1 a2 a3 k, LeO (impl_AddOr.f k a0 a1 a2 a3) (impl_AddOr.f (k + 1) a0 a1 a2 a3) := by
  intro a0 a1 a2 a3 k
  unfold impl_AddOr.f
  exact LeO.bind (impl_CircuitValid.mono _ _ _) (fun _ => LeO.refl _)
set_option maxHeartbeats 40000000 in
set_option maxRecDepth 100000 in
theorem impl_AddOr.calls_a (k : Nat) (a0_0 : Int) (A0_1 : Option Addr) (c0_1 : Nat) (l0_1 : List (S57)) (a1 : Int) (a2 : Int) (w : World) (hr0_1 : Kd.C k57 w A0_1 l0_1.length l0_1) (hc0_1 : l0_1.length ≤ c0_1) (ht0 : impl_CircuitValid.f k a0_0 l0_1 = some false) :
    Calls Try.prog 14 #[.agg #[.int .i64 a0_0, .slice A0_1 l0_1.length c0_1], .int .i64 a1, .int .i64 a2] w fun e w' => ∃ v1_ : Value, e = .returned (.tuple #[.agg #[.int .i64 0, v1_], .int .i64 (-1)]) ∧ Kd.R k57 57 w' w.heap.size (fun _ => True) v1_ ([]) ∧ Below w.heap.size w w' := by
  have hu := Try.underlying28
  have HR := Aside0.mk hr0_1
  have HC := Aside0.mk hc0_1
  have HB := Aside0.mk (Below.refl w.heap.size w)
  clear hr0_1 hc0_1
  have HT0 := Aside0.mk ht0
  clear ht0
  go_enter Try.func14, Try.ntmps14
  go_wp2_with (first | ((with_reducible refine gate_dst (N := 3) rfl ?_); refine box_event ?hg (N := 3) ?hd (cs := #[.int .i64 a0_0, .slice A0_1 l0_1.length c0_1]) (t := 28) ?hr ?_; (case hd => rfl); (case hg => rfl); (case hr => first | (go_simp; done) | (go_simp; rfl)); intro gd hgd w5 hbox hb; have BKD := Aside0.mk hbox; have n2_ := Aside0.mk (below_step HB.out hb); clear HB; have HB := n2_; clear n2_ hbox hb hgd) | ((with_reducible refine gate_dst (N := 6) rfl ?_); refine box_event ?hg (N := 6) ?hd (cs := #[.int .i64 0, .slice none 0 0]) (t := 28) ?hr ?_; (case hd => rfl); (case hg => rfl); (case hr => first | (go_simp; done) | (go_simp; rfl)); intro gr hgr w6 hbox hb; have GR := Aside0.mk (show w.heap.size ≤ gr by rw [hgr]; exact HB.out.size); have BKR := Aside0.mk hbox; have n0_ := Aside0.mk ((hb.block _ (blk_lt BKD.out)).trans BKD.out); have n2_ := Aside0.mk (below_step HB.out hb); clear BKD HB; have BKD := n0_; have HB := n2_; clear n0_ n2_ hbox hb hgr; have hcd0 := (blk_cell BKD.out 0).trans rfl; have hcd1 := (blk_cell BKD.out 1).trans rfl; have hcr0 := (blk_cell BKR.out 0).trans rfl; have hcr1 := (blk_cell BKR.out 1).trans rfl; have hfr0 := blk_frozen BKR.out 0; have hfr1 := blk_frozen BKR.out 1) | (go_at_call 23; with_reducible refine (impl_CircuitValid.calls k a0_0 A0_1 c0_1 l0_1 false _ (Kd.C_below HR.out HB.out) HC.out HT0.out).mono ?_; rintro e wa ⟨rfl, hb⟩; have n0_ := Aside0.mk ((hb.block _ (blk_lt BKD.out)).trans BKD.out); have n1_ := Aside0.mk ((hb.block _ (blk_lt BKR.out)).trans BKR.out); have n2_ := Aside0.mk (below_step HB.out hb); clear BKD BKR HB; have BKD := n0_; have BKR := n1_; have HB := n2_; clear n0_ n1_ n2_; have hcd0 := (blk_cell BKD.out 0).trans rfl; have hcd1 := (blk_cell BKD.out 1).trans rfl; have hcr0 := (blk_cell BKR.out 0).trans rfl; have hcr1 := (blk_cell BKR.out 1).trans rfl; have hfr0 := blk_frozen BKR.out 0; have hfr1 := blk_frozen BKR.out 1; clear hb))
  refine bodyPost_ret (results_ct rfl _ _ gr 28 #[.int .i64 0, .slice none 0 0] (0, 0) _ rfl (by refine blk_put (cs := #[.int .i64 0, .slice none 0 0]) ?_ 1 _ rfl; refine blk_put (cs := #[.int .i64 0, .slice none 0 0]) ?_ 0 _ rfl; exact BKR.out) Try.underlying28 rfl (by kernel_rfl)) rfl ?_
  exact ⟨_, rfl, Kd.R_nil _ _ _ _ _, below_set (below_set HB.out GR.out) GR.out⟩
set_option maxHeartbeats 40000000 in
set_option maxRecDepth 100000 in
theorem impl_AddOr.calls_b (k : Nat) (a0_0 : Int) (A0_1 : Option Addr) (c0_1 : Nat) (l0_1 : List (S57)) (a1 : Int) (a2 : Int) (w : World) (hr0_1 : Kd.C k57 w A0_1 l0_1.length l0_1) (hc0_1 : l0_1.length ≤ c0_1) (ht0 : impl_CircuitValid.f k a0_0 l0_1 = some true) (ht1 : impl_Circuit_isEdge.f a0_0 l0_1 a1 = some false) :
    Calls Try.prog 14 #[.agg #[.int .i64 a0_0, .slice A0_1 l0_1.length c0_1], .int .i64 a1, .int .i64 a2] w fun e w' => ∃ v1_ : Value, e = .returned (.tuple #[.agg #[.int .i64 0, v1_], .int .i64 (-1)]) ∧ Kd.R k57 57 w' w.heap.size (fun _ => True) v1_ ([]) ∧ Below w.heap.size w w' := by
  have hu := Try.underlying28
  have HR := Aside0.mk hr0_1
  have HC := Aside0.mk hc0_1
  have HB := Aside0.mk (Below.refl w.heap.size w)
  clear hr0_1 hc0_1
  have HT0 := Aside0.mk ht0
  clear ht0
  have HT1 := Aside0.mk ht1
  clear ht1
  go_enter Try.func14, Try.ntmps14
  go_wp2_with (first | ((with_reducible refine gate_dst (N := 3) rfl ?_); refine box_event ?hg (N := 3) ?hd (cs := #[.int .i64 a0_0, .slice A0_1 l0_1.length c0_1]) (t := 28) ?hr ?_; (case hd => rfl); (case hg => rfl); (case hr => first | (go_simp; done) | (go_simp; rfl)); intro gd hgd w5 hbox hb; have BKD := Aside0.mk hbox; have n2_ := Aside0.mk (below_step HB.out hb); clear HB; have HB := n2_; clear n2_ hbox hb hgd) | ((with_reducible refine gate_dst (N := 6) rfl ?_); refine box_event ?hg (N := 6) ?hd (cs := #[.int .i64 0, .slice none 0 0]) (t := 28) ?hr ?_; (case hd => rfl); (case hg => rfl); (case hr => first | (go_simp; done) | (go_simp; rfl)); intro gr hgr w6 hbox hb; have GR := Aside0.mk (show w.heap.size ≤ gr by rw [hgr]; exact HB.out.size); have BKR := Aside0.mk hbox; have n0_ := Aside0.mk ((hb.block _ (blk_lt BKD.out)).trans BKD.out); have n2_ := Aside0.mk (below_step HB.out hb); clear BKD HB; have BKD := n0_; have HB := n2_; clear n0_ n2_ hbox hb hgr; have hcd0 := (blk_cell BKD.out 0).trans rfl; have hcd1 := (blk_cell BKD.out 1).trans rfl; have hcr0 := (blk_cell BKR.out 0).trans rfl; have hcr1 := (blk_cell BKR.out 1).trans rfl; have hfr0 := blk_frozen BKR.out 0; have hfr1 := blk_frozen BKR.out 1) | (go_at_call 23; with_reducible refine (impl_CircuitValid.calls k a0_0 A0_1 c0_1 l0_1 true _ (Kd.C_below HR.out HB.out) HC.out HT0.out).mono ?_; rintro e wa ⟨rfl, hb⟩; have n0_ := Aside0.mk ((hb.block _ (blk_lt BKD.out)).trans BKD.out); have n1_ := Aside0.mk ((hb.block _ (blk_lt BKR.out)).trans BKR.out); have n2_ := Aside0.mk (below_step HB.out hb); clear BKD BKR HB; have BKD := n0_; have BKR := n1_; have HB := n2_; clear n0_ n1_ n2_; have hcd0 := (blk_cell BKD.out 0).trans rfl; have hcd1 := (blk_cell BKD.out 1).trans rfl; have hcr0 := (blk_cell BKR.out 0).trans rfl; have hcr1 := (blk_cell BKR.out 1).trans rfl; have hfr0 := blk_frozen BKR.out 0; have hfr1 := blk_frozen BKR.out 1; clear hb) | (go_at_call 24; with_reducible refine (impl_Circuit_isEdge.calls a0_0 A0_1 c0_1 l0_1 a1 false _ (Kd.C_below HR.out HB.out) HC.out HT1.out).mono ?_; rintro e wb1 ⟨rfl, hb'⟩; have hb := (by first | exact hb' | exact hb'.below | exact Drawn0.below hb' : Below _ _ _); have n0_ := Aside0.mk ((hb.block _ (blk_lt BKD.out)).trans BKD.out); have n1_ := Aside0.mk ((hb.block _ (blk_lt BKR.out)).trans BKR.out); have n2_ := Aside0.mk (below_step HB.out hb); clear BKD BKR HB; have BKD := n0_; have BKR := n1_; have HB := n2_; clear n0_ n1_ n2_; have hcd0 := (blk_cell BKD.out 0).trans rfl; have hcd1 := (blk_cell BKD.out 1).trans rfl; have hcr0 := (blk_cell BKR.out 0).trans rfl; have hcr1 := (blk_cell BKR.out 1).trans rfl; have hfr0 := blk_frozen BKR.out 0; have hfr1 := blk_frozen BKR.out 1; clear hb hb'))
  refine bodyPost_ret (results_ct rfl _ _ gr 28 #[.int .i64 0, .slice none 0 0] (0, 0) _ rfl (by refine blk_put (cs := #[.int .i64 0, .slice none 0 0]) ?_ 1 _ rfl; refine blk_put (cs := #[.int .i64 0, .slice none 0 0]) ?_ 0 _ rfl; exact BKR.out) Try.underlying28 rfl (by kernel_rfl)) rfl ?_
  exact ⟨_, rfl, Kd.R_nil _ _ _ _ _, below_set (below_set HB.out GR.out) GR.out⟩
set_option maxHeartbeats 40000000 in
set_option maxRecDepth 100000 in
theorem impl_AddOr.calls_c (k : Nat) (a0_0 : Int) (A0_1 : Option Addr) (c0_1 : Nat) (l0_1 : List (S57)) (a1 : Int) (a2 : Int) (w : World) (hr0_1 : Kd.C k57 w A0_1 l0_1.length l0_1) (hc0_1 : l0_1.length ≤ c0_1) (ht0 : impl_CircuitValid.f k a0_0 l0_1 = some true) (ht1 : impl_Circuit_isEdge.f a0_0 l0_1 a1 = some true) (ht2 : impl_Circuit_isEdge.f a0_0 l0_1 a2 = some false) :
    Calls Try.prog 14 #[.agg #[.int .i64 a0_0, .slice A0_1 l0_1.length c0_1], .int .i64 a1, .int .i64 a2] w fun e w' => ∃ v1_ : Value, e = .returned (.tuple #[.agg #[.int .i64 0, v1_], .int .i64 (-1)]) ∧ Kd.R k57 57 w' w.heap.size (fun _ => True) v1_ ([]) ∧ Below w.heap.size w w' := by
  have hu := Try.underlying28
  have HR := Aside0.mk hr0_1
  have HC := Aside0.mk hc0_1
  have HB := Aside0.mk (Below.refl w.heap.size w)
  clear hr0_1 hc0_1
  have HT0 := Aside0.mk ht0
  clear ht0
  have HT1 := Aside0.mk ht1
  clear ht1
  have HT2 := Aside0.mk ht2
  clear ht2
  go_enter Try.func14, Try.ntmps14
  go_wp2_with (first | ((with_reducible refine gate_dst (N := 3) rfl ?_); refine box_event ?hg (N := 3) ?hd (cs := #[.int .i64 a0_0, .slice A0_1 l0_1.length c0_1]) (t := 28) ?hr ?_; (case hd => rfl); (case hg => rfl); (case hr => first | (go_simp; done) | (go_simp; rfl)); intro gd hgd w5 hbox hb; have BKD := Aside0.mk hbox; have n2_ := Aside0.mk (below_step HB.out hb); clear HB; have HB := n2_; clear n2_ hbox hb hgd) | ((with_reducible refine gate_dst (N := 6) rfl ?_); refine box_event ?hg (N := 6) ?hd (cs := #[.int .i64 0, .slice none 0 0]) (t := 28) ?hr ?_; (case hd => rfl); (case hg => rfl); (case hr => first | (go_simp; done) | (go_simp; rfl)); intro gr hgr w6 hbox hb; have GR := Aside0.mk (show w.heap.size ≤ gr by rw [hgr]; exact HB.out.size); have BKR := Aside0.mk hbox; have n0_ := Aside0.mk ((hb.block _ (blk_lt BKD.out)).trans BKD.out); have n2_ := Aside0.mk (below_step HB.out hb); clear BKD HB; have BKD := n0_; have HB := n2_; clear n0_ n2_ hbox hb hgr; have hcd0 := (blk_cell BKD.out 0).trans rfl; have hcd1 := (blk_cell BKD.out 1).trans rfl; have hcr0 := (blk_cell BKR.out 0).trans rfl; have hcr1 := (blk_cell BKR.out 1).trans rfl; have hfr0 := blk_frozen BKR.out 0; have hfr1 := blk_frozen BKR.out 1) | (go_at_call 23; with_reducible refine (impl_CircuitValid.calls k a0_0 A0_1 c0_1 l0_1 true _ (Kd.C_below HR.out HB.out) HC.out HT0.out).mono ?_; rintro e wa ⟨rfl, hb⟩; have n0_ := Aside0.mk ((hb.block _ (blk_lt BKD.out)).trans BKD.out); have n1_ := Aside0.mk ((hb.block _ (blk_lt BKR.out)).trans BKR.out); have n2_ := Aside0.mk (below_step HB.out hb); clear BKD BKR HB; have BKD := n0_; have BKR := n1_; have HB := n2_; clear n0_ n1_ n2_; have hcd0 := (blk_cell BKD.out 0).trans rfl; have hcd1 := (blk_cell BKD.out 1).trans rfl; have hcr0 := (blk_cell BKR.out 0).trans rfl; have hcr1 := (blk_cell BKR.out 1).trans rfl; have hfr0 := blk_frozen BKR.out 0; have hfr1 := blk_frozen BKR.out 1; clear hb) | (go_at_call 24; with_reducible refine (impl_Circuit_isEdge.calls a0_0 A0_1 c0_1 l0_1 a1 true _ (Kd.C_below HR.out HB.out) HC.out HT1.out).mono ?_; rintro e wb1 ⟨rfl, hb'⟩; have hb := (by first | exact hb' | exact hb'.below | exact Drawn0.below hb' : Below _ _ _); have n0_ := Aside0.mk ((hb.block _ (blk_lt BKD.out)).trans BKD.out); have n1_ := Aside0.mk ((hb.block _ (blk_lt BKR.out)).trans BKR.out); have n2_ := Aside0.mk (below_step HB.out hb); clear BKD BKR HB; have BKD := n0_; have BKR := n1_; have HB := n2_; clear n0_ n1_ n2_; have hcd0 := (blk_cell BKD.out 0).trans rfl; have hcd1 := (blk_cell BKD.out 1).trans rfl; have hcr0 := (blk_cell BKR.out 0).trans rfl; have hcr1 := (blk_cell BKR.out 1).trans rfl; have hfr0 := blk_frozen BKR.out 0; have hfr1 := blk_frozen BKR.out 1; clear hb hb') | (go_at_call 24; with_reducible refine (impl_Circuit_isEdge.calls a0_0 A0_1 c0_1 l0_1 a2 false _ (Kd.C_below HR.out HB.out) HC.out HT2.out).mono ?_; rintro e wb2 ⟨rfl, hb'⟩; have hb := (by first | exact hb' | exact hb'.below | exact Drawn0.below hb' : Below _ _ _); have n0_ := Aside0.mk ((hb.block _ (blk_lt BKD.out)).trans BKD.out); have n1_ := Aside0.mk ((hb.block _ (blk_lt BKR.out)).trans BKR.out); have n2_ := Aside0.mk (below_step HB.out hb); clear BKD BKR HB; have BKD := n0_; have BKR := n1_; have HB := n2_; clear n0_ n1_ n2_; have hcd0 := (blk_cell BKD.out 0).trans rfl; have hcd1 := (blk_cell BKD.out 1).trans rfl; have hcr0 := (blk_cell BKR.out 0).trans rfl; have hcr1 := (blk_cell BKR.out 1).trans rfl; have hfr0 := blk_frozen BKR.out 0; have hfr1 := blk_frozen BKR.out 1; clear hb hb'))
  refine bodyPost_ret (results_ct rfl _ _ gr 28 #[.int .i64 0, .slice none 0 0] (0, 0) _ rfl (by refine blk_put (cs := #[.int .i64 0, .slice none 0 0]) ?_ 1 _ rfl; refine blk_put (cs := #[.int .i64 0, .slice none 0 0]) ?_ 0 _ rfl; exact BKR.out) Try.underlying28 rfl (by kernel_rfl)) rfl ?_
  exact ⟨_, rfl, Kd.R_nil _ _ _ _ _, below_set (below_set HB.out GR.out) GR.out⟩
set_option maxHeartbeats 40000000 in
set_option maxRecDepth 100000 in
theorem impl_AddOr.calls_d (k : Nat) (a0_0 : Int) (A0_1 : Option Addr) (c0_1 : Nat) (l0_1 : List (S57)) (a1 : Int) (a2 : Int) (w : World) (hr0_1 : Kd.C k57 w A0_1 l0_1.length l0_1) (hc0_1 : l0_1.length ≤ c0_1) (ht0 : impl_CircuitValid.f k a0_0 l0_1 = some true) (ht1 : impl_Circuit_isEdge.f a0_0 l0_1 a1 = some true) (ht2 : impl_Circuit_isEdge.f a0_0 l0_1 a2 = some true) (hgd : ∀ y ∈ l0_1, impl_building.key.good y) (hw1 : (Lit.int .i64 a1).wf = true) (hw2 : (Lit.int .i64 a2).wf = true) (hlen : l0_1.length ≤ 600) (hf : (impl_builder_or.f a0_0 l0_1 a1 a2).2.2 = true) :
    Calls Try.prog 14 #[.agg #[.int .i64 a0_0, .slice A0_1 l0_1.length c0_1], .int .i64 a1, .int .i64 a2] w fun e w' => ∃ v1_ : Value, e = .returned (.tuple #[.agg #[.int .i64 0, v1_], .int .i64 (-1)]) ∧ Kd.R k57 57 w' w.heap.size (fun _ => True) v1_ ([]) ∧ Below w.heap.size w w' := by
  have hu := Try.underlying28
  have HR := Aside0.mk hr0_1
  have HC := Aside0.mk hc0_1
  have HB := Aside0.mk (Below.refl w.heap.size w)
  clear hr0_1 hc0_1
  have HT0 := Aside0.mk ht0
  clear ht0
  have HT1 := Aside0.mk ht1
  clear ht1
  have HT2 := Aside0.mk ht2
  clear ht2
  have HGG := Aside0.mk hgd
  have HW1 := Aside0.mk hw1
  have HW2 := Aside0.mk hw2
  have HLN := Aside0.mk hlen
  have HF := Aside0.mk hf
  have HL2 := Aside0.mk (impl_builder_or.f_len a0_0 l0_1 a1 a2 hlen)
  clear hgd hw1 hw2 hf
  go_enter Try.func14, Try.ntmps14
  go_wp2_with (first | ((with_reducible refine gate_dst (N := 3) rfl ?_); refine box_event ?hg (N := 3) ?hd (cs := #[.int .i64 a0_0, .slice A0_1 l0_1.length c0_1]) (t := 28) ?hr ?_; (case hd => rfl); (case hg => rfl); (case hr => first | (go_simp; done) | (go_simp; rfl)); intro gd hgd w5 hbox hb; have BKD := Aside0.mk hbox; have n2_ := Aside0.mk (below_step HB.out hb); clear HB; have HB := n2_; clear n2_ hbox hb hgd) | ((with_reducible refine gate_dst (N := 6) rfl ?_); refine box_event ?hg (N := 6) ?hd (cs := #[.int .i64 0, .slice none 0 0]) (t := 28) ?hr ?_; (case hd => rfl); (case hg => rfl); (case hr => first | (go_simp; done) | (go_simp; rfl)); intro gr hgr w6 hbox hb; have GR := Aside0.mk (show w.heap.size ≤ gr by rw [hgr]; exact HB.out.size); have BKR := Aside0.mk hbox; have n0_ := Aside0.mk ((hb.block _ (blk_lt BKD.out)).trans BKD.out); have n2_ := Aside0.mk (below_step HB.out hb); clear BKD HB; have BKD := n0_; have HB := n2_; clear n0_ n2_ hbox hb hgr; have hcd0 := (blk_cell BKD.out 0).trans rfl; have hcd1 := (blk_cell BKD.out 1).trans rfl; have hcr0 := (blk_cell BKR.out 0).trans rfl; have hcr1 := (blk_cell BKR.out 1).trans rfl; have hfr0 := blk_frozen BKR.out 0; have hfr1 := blk_frozen BKR.out 1) | (go_at_call 23; with_reducible refine (impl_CircuitValid.calls k a0_0 A0_1 c0_1 l0_1 true _ (Kd.C_below HR.out HB.out) HC.out HT0.out).mono ?_; rintro e wa ⟨rfl, hb⟩; have n0_ := Aside0.mk ((hb.block _ (blk_lt BKD.out)).trans BKD.out); have n1_ := Aside0.mk ((hb.block _ (blk_lt BKR.out)).trans BKR.out); have n2_ := Aside0.mk (below_step HB.out hb); clear BKD BKR HB; have BKD := n0_; have BKR := n1_; have HB := n2_; clear n0_ n1_ n2_; have hcd0 := (blk_cell BKD.out 0).trans rfl; have hcd1 := (blk_cell BKD.out 1).trans rfl; have hcr0 := (blk_cell BKR.out 0).trans rfl; have hcr1 := (blk_cell BKR.out 1).trans rfl; have hfr0 := blk_frozen BKR.out 0; have hfr1 := blk_frozen BKR.out 1; clear hb) | (go_at_call 24; with_reducible refine (impl_Circuit_isEdge.calls a0_0 A0_1 c0_1 l0_1 a1 true _ (Kd.C_below HR.out HB.out) HC.out HT1.out).mono ?_; rintro e wb1 ⟨rfl, hb'⟩; have hb := (by first | exact hb' | exact hb'.below | exact Drawn0.below hb' : Below _ _ _); have n0_ := Aside0.mk ((hb.block _ (blk_lt BKD.out)).trans BKD.out); have n1_ := Aside0.mk ((hb.block _ (blk_lt BKR.out)).trans BKR.out); have n2_ := Aside0.mk (below_step HB.out hb); clear BKD BKR HB; have BKD := n0_; have BKR := n1_; have HB := n2_; clear n0_ n1_ n2_; have hcd0 := (blk_cell BKD.out 0).trans rfl; have hcd1 := (blk_cell BKD.out 1).trans rfl; have hcr0 := (blk_cell BKR.out 0).trans rfl; have hcr1 := (blk_cell BKR.out 1).trans rfl; have hfr0 := blk_frozen BKR.out 0; have hfr1 := blk_frozen BKR.out 1; clear hb hb') | (go_at_call 24; with_reducible refine (impl_Circuit_isEdge.calls a0_0 A0_1 c0_1 l0_1 a2 true _ (Kd.C_below HR.out HB.out) HC.out HT2.out).mono ?_; rintro e wb2 ⟨rfl, hb'⟩; have hb := (by first | exact hb' | exact hb'.below | exact Drawn0.below hb' : Below _ _ _); have n0_ := Aside0.mk ((hb.block _ (blk_lt BKD.out)).trans BKD.out); have n1_ := Aside0.mk ((hb.block _ (blk_lt BKR.out)).trans BKR.out); have n2_ := Aside0.mk (below_step HB.out hb); clear BKD BKR HB; have BKD := n0_; have BKR := n1_; have HB := n2_; clear n0_ n1_ n2_; have hcd0 := (blk_cell BKD.out 0).trans rfl; have hcd1 := (blk_cell BKD.out 1).trans rfl; have hcr0 := (blk_cell BKR.out 0).trans rfl; have hcr1 := (blk_cell BKR.out 1).trans rfl; have hfr0 := blk_frozen BKR.out 0; have hfr1 := blk_frozen BKR.out 1; clear hb hb') | (go_at_call 25; with_reducible refine (impl_building.calls a0_0 A0_1 c0_1 l0_1 _ (Kd.C_below HR.out HB.out) HC.out HGG.out HLN.out).mono ?_; rintro e wc ⟨gb, rfl, bm, A1, c1, hbk, ho, hm, hgb, hbm, hb⟩; have BKB := Aside0.mk hbk; have HO := Aside0.mk ho; have HM := Aside0.mk hm; have GB := Aside0.mk hgb; have GM := Aside0.mk hbm; have HBB := Aside0.mk hb; clear hbk ho hm hgb hbm hb) | (go_at_call 32; with_reducible refine (impl_builder_or.calls a0_0 l0_1 a1 a2 gb bm A1 c1 _ _ HBB.out BKB.out HO.out HM.out GB.out GM.out HLN.out).mono ?_; rintro e wd ⟨rfl, A2, c2, hbk, ho, hb⟩; rw [HF.out] at hbk; clear BKB HO HM HBB; have BKB := Aside0.mk hbk; have HO := Aside0.mk ho; have HBB := Aside0.mk hb; clear hbk ho hb) | (go_at_call 26; with_reducible refine (impl_builder_done.calls_t a0_0 (impl_builder_or.f a0_0 l0_1 a1 a2).2.1 (impl_builder_or.f a0_0 l0_1 a1 a2).1 gb bm A2 c2 _ _ HBB.out BKB.out HO.out GB.out HL2.out).mono ?_; rintro e we ⟨v1, rfl, ho, hb⟩; obtain ⟨A3, c3, rfl⟩ := Kd.R_slice ho; have BKE := Aside0.mk ((hb.block _ (blk_lt BKR.out)).trans BKR.out); have HOE := Aside0.mk (Kd.R_newB ho BKR.out); have HBE := Aside0.mk (below_step HB.out hb); clear ho hb; have hce0 := (blk_cell BKE.out 0).trans rfl; have hce1 := (blk_cell BKE.out 1).trans rfl; have hfe0 := blk_frozen BKE.out 0; have hfe1 := blk_frozen BKE.out 1))
  refine bodyPost_ret (results_ct rfl _ _ gr 28 #[.int .i64 0, .slice A3 ([] : List S57).length c3] (0, 0) _ rfl (by refine blk_put (cs := #[.int .i64 0, .slice none 0 0]) ?_ 1 _ rfl; refine blk_put (cs := #[.int .i64 0, .slice none 0 0]) ?_ 0 _ rfl; exact BKE.out) Try.underlying28 rfl (by kernel_rfl)) rfl ?_
  exact ⟨_, rfl, Kd.R_lower (Kd.R_mono (Kd.R_far (p := ⟨gr, 1, none⟩) (Kd.R_far (p := ⟨gr, 0, none⟩) HOE.out (fun _ hk => hk.2) _) (fun _ hk => hk.2) _) (fun _ _ => trivial)) HB.out.size, below_set (below_set HBE.out GR.out) GR.out⟩
set_option maxHeartbeats 40000000 in
set_option maxRecDepth 100000 in
theorem impl_AddOr.calls_e (k : Nat) (a0_0 : Int) (A0_1 : Option Addr) (c0_1 : Nat) (l0_1 : List (S57)) (a1 : Int) (a2 : Int) (w : World) (hr0_1 : Kd.C k57 w A0_1 l0_1.length l0_1) (hc0_1 : l0_1.length ≤ c0_1) (ht0 : impl_CircuitValid.f k a0_0 l0_1 = some true) (ht1 : impl_Circuit_isEdge.f a0_0 l0_1 a1 = some true) (ht2 : impl_Circuit_isEdge.f a0_0 l0_1 a2 = some true) (hgd : ∀ y ∈ l0_1, impl_building.key.good y) (hw1 : (Lit.int .i64 a1).wf = true) (hw2 : (Lit.int .i64 a2).wf = true) (hlen : l0_1.length ≤ 600) (hf : (impl_builder_or.f a0_0 l0_1 a1 a2).2.2 = false) :
    Calls Try.prog 14 #[.agg #[.int .i64 a0_0, .slice A0_1 l0_1.length c0_1], .int .i64 a1, .int .i64 a2] w fun e w' => ∃ v1_ : Value, e = .returned (.tuple #[.agg #[.int .i64 a0_0, v1_], .int .i64 ((impl_builder_or.f a0_0 l0_1 a1 a2).1)]) ∧ Kd.R k57 57 w' w.heap.size (fun _ => True) v1_ ((impl_builder_or.f a0_0 l0_1 a1 a2).2.1) ∧ Below w.heap.size w w' := by
  have hu := Try.underlying28
  have HR := Aside0.mk hr0_1
  have HC := Aside0.mk hc0_1
  have HB := Aside0.mk (Below.refl w.heap.size w)
  clear hr0_1 hc0_1
  have HT0 := Aside0.mk ht0
  clear ht0
  have HT1 := Aside0.mk ht1
  clear ht1
  have HT2 := Aside0.mk ht2
  clear ht2
  have HGG := Aside0.mk hgd
  have HW1 := Aside0.mk hw1
  have HW2 := Aside0.mk hw2
  have HLN := Aside0.mk hlen
  have HF := Aside0.mk hf
  have HL2 := Aside0.mk (impl_builder_or.f_len a0_0 l0_1 a1 a2 hlen)
  clear hgd hw1 hw2 hf
  go_enter Try.func14, Try.ntmps14
  go_wp2_with (first | ((with_reducible refine gate_dst (N := 3) rfl ?_); refine box_event ?hg (N := 3) ?hd (cs := #[.int .i64 a0_0, .slice A0_1 l0_1.length c0_1]) (t := 28) ?hr ?_; (case hd => rfl); (case hg => rfl); (case hr => first | (go_simp; done) | (go_simp; rfl)); intro gd hgd w5 hbox hb; have BKD := Aside0.mk hbox; have n2_ := Aside0.mk (below_step HB.out hb); clear HB; have HB := n2_; clear n2_ hbox hb hgd) | ((with_reducible refine gate_dst (N := 6) rfl ?_); refine box_event ?hg (N := 6) ?hd (cs := #[.int .i64 0, .slice none 0 0]) (t := 28) ?hr ?_; (case hd => rfl); (case hg => rfl); (case hr => first | (go_simp; done) | (go_simp; rfl)); intro gr hgr w6 hbox hb; have GR := Aside0.mk (show w.heap.size ≤ gr by rw [hgr]; exact HB.out.size); have BKR := Aside0.mk hbox; have n0_ := Aside0.mk ((hb.block _ (blk_lt BKD.out)).trans BKD.out); have n2_ := Aside0.mk (below_step HB.out hb); clear BKD HB; have BKD := n0_; have HB := n2_; clear n0_ n2_ hbox hb hgr; have hcd0 := (blk_cell BKD.out 0).trans rfl; have hcd1 := (blk_cell BKD.out 1).trans rfl; have hcr0 := (blk_cell BKR.out 0).trans rfl; have hcr1 := (blk_cell BKR.out 1).trans rfl; have hfr0 := blk_frozen BKR.out 0; have hfr1 := blk_frozen BKR.out 1) | (go_at_call 23; with_reducible refine (impl_CircuitValid.calls k a0_0 A0_1 c0_1 l0_1 true _ (Kd.C_below HR.out HB.out) HC.out HT0.out).mono ?_; rintro e wa ⟨rfl, hb⟩; have n0_ := Aside0.mk ((hb.block _ (blk_lt BKD.out)).trans BKD.out); have n1_ := Aside0.mk ((hb.block _ (blk_lt BKR.out)).trans BKR.out); have n2_ := Aside0.mk (below_step HB.out hb); clear BKD BKR HB; have BKD := n0_; have BKR := n1_; have HB := n2_; clear n0_ n1_ n2_; have hcd0 := (blk_cell BKD.out 0).trans rfl; have hcd1 := (blk_cell BKD.out 1).trans rfl; have hcr0 := (blk_cell BKR.out 0).trans rfl; have hcr1 := (blk_cell BKR.out 1).trans rfl; have hfr0 := blk_frozen BKR.out 0; have hfr1 := blk_frozen BKR.out 1; clear hb) | (go_at_call 24; with_reducible refine (impl_Circuit_isEdge.calls a0_0 A0_1 c0_1 l0_1 a1 true _ (Kd.C_below HR.out HB.out) HC.out HT1.out).mono ?_; rintro e wb1 ⟨rfl, hb'⟩; have hb := (by first | exact hb' | exact hb'.below | exact Drawn0.below hb' : Below _ _ _); have n0_ := Aside0.mk ((hb.block _ (blk_lt BKD.out)).trans BKD.out); have n1_ := Aside0.mk ((hb.block _ (blk_lt BKR.out)).trans BKR.out); have n2_ := Aside0.mk (below_step HB.out hb); clear BKD BKR HB; have BKD := n0_; have BKR := n1_; have HB := n2_; clear n0_ n1_ n2_; have hcd0 := (blk_cell BKD.out 0).trans rfl; have hcd1 := (blk_cell BKD.out 1).trans rfl; have hcr0 := (blk_cell BKR.out 0).trans rfl; have hcr1 := (blk_cell BKR.out 1).trans rfl; have hfr0 := blk_frozen BKR.out 0; have hfr1 := blk_frozen BKR.out 1; clear hb hb') | (go_at_call 24; with_reducible refine (impl_Circuit_isEdge.calls a0_0 A0_1 c0_1 l0_1 a2 true _ (Kd.C_below HR.out HB.out) HC.out HT2.out).mono ?_; rintro e wb2 ⟨rfl, hb'⟩; have hb := (by first | exact hb' | exact hb'.below | exact Drawn0.below hb' : Below _ _ _); have n0_ := Aside0.mk ((hb.block _ (blk_lt BKD.out)).trans BKD.out); have n1_ := Aside0.mk ((hb.block _ (blk_lt BKR.out)).trans BKR.out); have n2_ := Aside0.mk (below_step HB.out hb); clear BKD BKR HB; have BKD := n0_; have BKR := n1_; have HB := n2_; clear n0_ n1_ n2_; have hcd0 := (blk_cell BKD.out 0).trans rfl; have hcd1 := (blk_cell BKD.out 1).trans rfl; have hcr0 := (blk_cell BKR.out 0).trans rfl; have hcr1 := (blk_cell BKR.out 1).trans rfl; have hfr0 := blk_frozen BKR.out 0; have hfr1 := blk_frozen BKR.out 1; clear hb hb') | (go_at_call 25; with_reducible refine (impl_building.calls a0_0 A0_1 c0_1 l0_1 _ (Kd.C_below HR.out HB.out) HC.out HGG.out HLN.out).mono ?_; rintro e wc ⟨gb, rfl, bm, A1, c1, hbk, ho, hm, hgb, hbm, hb⟩; have BKB := Aside0.mk hbk; have HO := Aside0.mk ho; have HM := Aside0.mk hm; have GB := Aside0.mk hgb; have GM := Aside0.mk hbm; have HBB := Aside0.mk hb; clear hbk ho hm hgb hbm hb) | (go_at_call 32; with_reducible refine (impl_builder_or.calls a0_0 l0_1 a1 a2 gb bm A1 c1 _ _ HBB.out BKB.out HO.out HM.out GB.out GM.out HLN.out).mono ?_; rintro e wd ⟨rfl, A2, c2, hbk, ho, hb⟩; rw [HF.out] at hbk; clear BKB HO HM HBB; have BKB := Aside0.mk hbk; have HO := Aside0.mk ho; have HBB := Aside0.mk hb; clear hbk ho hb) | (go_at_call 26; with_reducible refine (impl_builder_done.calls_f a0_0 (impl_builder_or.f a0_0 l0_1 a1 a2).2.1 (impl_builder_or.f a0_0 l0_1 a1 a2).1 gb bm A2 c2 _ _ HBB.out BKB.out HO.out GB.out HL2.out).mono ?_; rintro e we ⟨v1, rfl, ho, hb⟩; obtain ⟨A3, c3, rfl⟩ := Kd.R_slice ho; have BKE := Aside0.mk ((hb.block _ (blk_lt BKR.out)).trans BKR.out); have HOE := Aside0.mk (Kd.R_newB ho BKR.out); have HBE := Aside0.mk (below_step HB.out hb); clear ho hb; have hce0 := (blk_cell BKE.out 0).trans rfl; have hce1 := (blk_cell BKE.out 1).trans rfl; have hfe0 := blk_frozen BKE.out 0; have hfe1 := blk_frozen BKE.out 1))
  refine bodyPost_ret (results_ct rfl _ _ gr 28 #[.int .i64 a0_0, .slice A3 (impl_builder_or.f a0_0 l0_1 a1 a2).2.1.length c3] (0, 0) _ rfl (by refine blk_put (cs := #[.int .i64 a0_0, .slice none 0 0]) ?_ 1 _ rfl; refine blk_put (cs := #[.int .i64 0, .slice none 0 0]) ?_ 0 _ rfl; exact BKE.out) Try.underlying28 rfl (by kernel_rfl)) rfl ?_
  exact ⟨_, rfl, Kd.R_lower (Kd.R_mono (Kd.R_far (p := ⟨gr, 1, none⟩) (Kd.R_far (p := ⟨gr, 0, none⟩) HOE.out (fun _ hk => hk.2) _) (fun _ hk => hk.2) _) (fun _ _ => trivial)) HB.out.size, below_set (below_set HBE.out GR.out) GR.out⟩
set_option maxHeartbeats 40000000 in
set_option maxRecDepth 100000 in
theorem impl_AddOr.calls (k : Nat) (a0_0 : Int) (A0_1 : Option Addr) (c0_1 : Nat) (l0_1 : List (S57)) (a1 : Int) (a2 : Int) (r1 : Int) (r2 : List (S57)) (r3 : Int) (w : World) (hr0_1 : Kd.C k57 w A0_1 l0_1.length l0_1) (hc0_1 : l0_1.length ≤ c0_1) (h : impl_AddOr.f k a0_0 l0_1 a1 a2 = some (r1, r2, r3)) :
    Calls Try.prog 14 #[.agg #[.int .i64 a0_0, .slice A0_1 l0_1.length c0_1], .int .i64 a1, .int .i64 a2] w fun e w' => ∃ v1_ : Value, e = .returned (.tuple #[.agg #[.int .i64 r1, v1_], .int .i64 r3]) ∧ Kd.R k57 57 w' w.heap.size (fun _ => True) v1_ (r2) ∧ Below w.heap.size w w' := by
  unfold impl_AddOr.f at h
  obtain ⟨t0, ht0, h⟩ := Option.bind_eq_some_iff.mp h
  cases t0 with
  | false =>
    rw [if_neg (by decide)] at h
    simp only [Option.some.injEq, Prod.mk.injEq] at h
    obtain ⟨rfl, rfl, rfl⟩ := h
    exact impl_AddOr.calls_a k a0_0 A0_1 c0_1 l0_1 a1 a2 w hr0_1 hc0_1 ht0
  | true =>
    rw [if_pos rfl] at h
    obtain ⟨t1, ht1, h⟩ := Option.bind_eq_some_iff.mp h
    cases t1 with
    | false =>
      rw [if_neg (by decide)] at h
      simp only [Option.some.injEq, Prod.mk.injEq] at h
      obtain ⟨rfl, rfl, rfl⟩ := h
      exact impl_AddOr.calls_b k a0_0 A0_1 c0_1 l0_1 a1 a2 w hr0_1 hc0_1 ht0 ht1
    | true =>
      rw [if_pos rfl] at h
      obtain ⟨t2, ht2, h⟩ := Option.bind_eq_some_iff.mp h
      cases t2 with
      | false =>
        rw [if_neg (by decide)] at h
        simp only [Option.some.injEq, Prod.mk.injEq] at h
        obtain ⟨rfl, rfl, rfl⟩ := h
        exact impl_AddOr.calls_c k a0_0 A0_1 c0_1 l0_1 a1 a2 w hr0_1 hc0_1 ht0 ht1 ht2
      | true =>
        rw [if_pos rfl] at h
        by_cases hg : impl_AddOr.good l0_1 a1 a2 = true
        · rw [if_pos hg] at h
          unfold impl_AddOr.good at hg
          simp only [Bool.and_eq_true, decide_eq_true_eq, List.all_eq_true] at hg
          obtain ⟨⟨⟨hgd, hw1⟩, hw2⟩, hlen⟩ := hg
          cases hf : (impl_builder_or.f a0_0 l0_1 a1 a2).2.2 with
          | true =>
            rw [hf, if_pos rfl] at h
            simp only [Option.some.injEq, Prod.mk.injEq] at h
            obtain ⟨rfl, rfl, rfl⟩ := h
            exact impl_AddOr.calls_d k a0_0 A0_1 c0_1 l0_1 a1 a2 w hr0_1 hc0_1 ht0 ht1 ht2 hgd hw1 hw2 hlen hf
          | false =>
            rw [hf, if_neg (by decide)] at h
            simp only [Option.some.injEq, Prod.mk.injEq] at h
            obtain ⟨rfl, rfl, rfl⟩ := h
            exact impl_AddOr.calls_e k a0_0 A0_1 c0_1 l0_1 a1 a2 w hr0_1 hc0_1 ht0 ht1 ht2 hgd hw1 hw2 hlen hf
        · rw [if_neg hg] at h
          cases h


end Go.Proofs.Ythphgkhmeobadaa.XFnExactAddOr
