/- Printed by a program of this session out of the translation: the Go functions that a law uses as plain Lean functions, with the proofs of their calls, or the law's row.
Conditions: those that each theorem states. -/
import Derived.Test.YthphgkhmeobadaaXFnAddAndOrx0
import Derived.Test.YthphgkhmeobadaaXFnAddAndOrx3
namespace Go.Proofs.Ythphgkhmeobadaa.XFnAddAndOr
open Go.RowKit Go.Proofs.YthphgkhmeobadaaW.PrintWords Go.Proofs.YthphgkhmeobadaaW.PrintLast Go.Proofs.YthphgkhmeobadaaW.PrintMore
attribute [local go_sem] max2_int min2_int max_two min_two max_three min_three max_four min_four   -- for this text's walks alone
set_option linter.unusedVariables false
set_option linter.unusedSimpArgs false

/-! ### impl_building: function 25 (by hand) -/
theorem impl_building.laid : laidOutB Try.prog = true := by kernel_rfl
theorem impl_building.keyed : Go.Maps.Keyed Try.prog 57 := Go.Maps.Keyed.of_law (deep_law_laid impl_building.laid (m := 2) (by omega) (of_decide_eq_true (by kernel_rfl)) (by kernel_rfl) (by rw [Try.underlying57]))
theorem impl_building.formed (a b : Value) : (Value.agg #[a, b]).formed Try.prog 57 = true := by
 have h : Try.prog.cellsOf 57 = 2 := by kernel_rfl
 simp [Value.formed, Try.underlying57, h]
theorem impl_building.read (a b : Int) (ha : (Lit.int .i64 a).wf = true) (hb : (Lit.int .i64 b).wf = true) : ∃ l, keyOf Try.prog 57 (.agg #[.int .i64 a, .int .i64 b]) = some l := by
 have hk : Try.prog.keyType 57 = true := by kernel_rfl
 have h : Try.prog.cellsOf 57 = 2 := by kernel_rfl
 have h3 : Try.prog.cellsOf 3 = 1 := by kernel_rfl
 have hu3 := Try.underlying3
 obtain ⟨m, hm⟩ : ∃ m, Try.prog.types.size = m + 1 := ⟨Try.prog.types.size - 1, (Nat.sub_add_cancel (of_decide_eq_true (by kernel_rfl))).symm⟩
 unfold keyOf
 rw [Try.underlying57]
 simp only [hk, impl_building.formed, Bool.and_true, if_true, hm]
 simp [Program.keyLits, Try.underlying57, h, h3, hu3, ha, hb, Value.cells]
def impl_building.enc (x : S57) : Value := .agg #[.int .i64 x.f0, .int .i64 x.f1]
def impl_building.key : Go.Proofs.YthphgkhmeobadaaX.KeyK Try.prog 57 impl_building.enc where
 law := impl_building.keyed
 good x := (Lit.int .i64 x.f0).wf = true ∧ (Lit.int .i64 x.f1).wf = true
 read x h := impl_building.read x.f0 x.f1 h.1 h.2
 inj {x y} h := by
  cases x
  cases y
  simp only [impl_building.enc, Value.agg.injEq] at h
  simpa using h

def impl_building.T1 : Bool × List (List Nat × List Nat) := (true, [([], []), ([0], [0]), ([], []), ([2], [2]), ([3], [3]), ([1, 4], [1, 4]), ([], []), ([5, 6], [5, 6]), ([7], [7]), ([8, 4, 0, 1, 2, 3, 4, 5, 6, 7, 8], [8])])
def impl_building.B1 : List Nat := [0, 1, 0, 4, 12, 31, 0, 127, 255, 511]
theorem impl_building.tab1 : rtab .any (opsOf Try.f25 1) = impl_building.T1 := by kernel_rfl
theorem impl_building.bits1 : waitsOk impl_building.T1.2 impl_building.B1 = true := by kernel_rfl
def impl_building.T5 : Bool × List (List Nat × List Nat) := (true, [([], []), ([0], [0]), ([1], [1]), ([2], [2]), ([], []), ([3, 4], [3, 4]), ([5], [5]), ([6], [6]), ([6], [6]), ([7, 0, 1, 2, 3, 4, 5, 6, 7], [7]), ([8, 9, 0, 1, 2, 3, 4, 5, 6, 7, 8, 9], [8])])
def impl_building.B5 : List Nat := [0, 1, 3, 7, 0, 31, 63, 127, 127, 255, 1023]
theorem impl_building.tab5 : rtab .any (opsOf Try.f25 5) = impl_building.T5 := by kernel_rfl
theorem impl_building.bits5 : waitsOk impl_building.T5.2 impl_building.B5 = true := by kernel_rfl
def impl_building.T7 : Bool × List (List Nat × List Nat) := (true, [([], []), ([0], [0]), ([1], [1]), ([2], [2]), ([], []), ([], []), ([5], [5]), ([6], [6]), ([], []), ([7, 8], [7, 8]), ([9], [9]), ([3, 4, 10, 0, 1, 2, 3, 4, 5, 6, 7, 8, 9, 10], [3, 4, 10])])
def impl_building.B7 : List Nat := [0, 1, 3, 7, 0, 0, 32, 96, 0, 480, 992, 2047]
theorem impl_building.tab7 : rtab .any (opsOf Try.f25 7) = impl_building.T7 := by kernel_rfl
theorem impl_building.bits7 : waitsOk impl_building.T7.2 impl_building.B7 = true := by kernel_rfl
def impl_building.elem : Go.Proofs.YthphgkhmeobadaaX.ElemK Try.prog 3 (Value.int .i64) (0 : Int) := Go.Proofs.YthphgkhmeobadaaX.elemInt Try.underlying3 (fun w => by kernel_rfl)
def impl_building.eqS (x y : S57) : Bool := decide (x.f0 = y.f0 ∧ x.f1 = y.f1)
def impl_building.at_ (n : Int) (j : Nat) : Int := wrap64 (2 * (wrap64 ((wrap64 (1 + n)) + (j : Int))))
/-- At which edge a gate stands first, among the first i gates. -/
def impl_building.seen (n : Int) (l : List S57) (i : Nat) (y : S57) : Option Int := ((l.take i).findIdx? (impl_building.eqS y)).map (impl_building.at_ n)
theorem impl_building.at_wf (n : Int) (j : Nat) : (Lit.int .i64 (impl_building.at_ n j)).wf = true := by
 have e1 : IntKind.i64.min = -9223372036854775808 := by decide
 have e2 : IntKind.i64.max = 9223372036854775807 := by decide
 unfold impl_building.at_
 generalize 2 * (wrap64 ((wrap64 (1 + n)) + (j : Int))) = q
 simp only [Lit.wf, e1, e2, Bool.and_eq_true, decide_eq_true_eq]
 unfold wrap64
 omega
theorem impl_building.seen_succ (n : Int) (l : List S57) (x : Int) (h0 : 0 ≤ x) (h : x < l.length) (y : S57) : impl_building.seen n l (x.toNat + 1) y = match impl_building.seen n l x.toNat y with
  | some e => some e
  | none => if impl_building.eqS y (rd_T57 l x) = true then some (impl_building.at_ n x.toNat) else none := by
 have e2 : l.take (x.toNat + 1) = l.take x.toNat ++ [rd_T57 l x] := by rw [List.take_succ_eq_append_getElem (by omega)]; unfold rd_T57; rw [List.getD_eq_getElem?_getD, List.getElem?_eq_getElem (by omega)]; rfl
 unfold impl_building.seen
 rw [e2, List.findIdx?_append]
 cases hq : (l.take x.toNat).findIdx? (impl_building.eqS y) with
 | some j => rfl
 | none =>
  simp only [Option.none_or, Option.map_none, List.findIdx?_cons, List.findIdx?_nil, List.length_take]
  rw [Nat.min_eq_left (by omega)]
  cases impl_building.eqS y (rd_T57 l x) <;> simp
set_option maxHeartbeats 40000000 in
set_option maxRecDepth 100000 in
theorem impl_building.calls (a0 : Int) (A0 : Option Addr) (c0 : Nat) (l0 : List S57) (w : World) (hr0 : Kd.C k57 w A0 l0.length l0) (hc0 : l0.length ≤ c0) (hgd : ∀ y ∈ l0, impl_building.key.good y) (hlen : l0.length ≤ 600) :
  Calls Try.prog 25 #[.agg #[.int .i64 a0, .slice A0 l0.length c0]] w fun e w' => ∃ gb : Nat, e = .returned (.pointer (some ⟨gb, 0, none⟩)) ∧ ∃ (bm : Nat) (A1 : Option Addr) (c1 : Nat), w'.heap[gb]? = some (.cells #[.int .i64 a0, .slice A1 l0.length c1, .map (some bm), .bool false] 67 (0, 0)) ∧ Kd.R k57 57 w' w.heap.size (fun _ => True) (.slice A1 l0.length c1) l0 ∧ Go.Proofs.YthphgkhmeobadaaX.MapF impl_building.key impl_building.elem w' bm l0.length (impl_building.seen a0 l0 l0.length) ∧ w.heap.size ≤ gb ∧ w.heap.size ≤ bm ∧ Below w.heap.size w w' := by
 have hu := Try.underlying28
 have hub := Try.underlying67
 have hsc : impl_And_42.f l0 = some l0 := by unfold impl_And_42.f; rw [if_pos (by omega)]
 have hmax : l0.length ≤ 9223372036854775807 := by omega
 have HR := Yj hr0
 have HC := Yj hc0
 have HG := Yj hgd
 have HSC := Yj hsc
 clear hr0 hc0 hgd hsc
 go_enter Try.func25, Try.ntmps25
 go_wp2_with (first | ((with_reducible refine gate_dst (N := 1) rfl ?_); refine box_event ?hg (N := 1) ?hd (cs := #[.int .i64 a0, .slice A0 l0.length c0]) (t := 28) ?hr ?_; (case hd => rfl); (case hg => rfl); (case hr => first | (go_simp; done) | (go_simp; rfl)); intro gd hg w5 hbox hb; have HB := Yj hb; have BKD := Yj hbox; have hcz0 : w5.cell? ⟨gd, 0, none⟩ = some (.int .i64 a0) := (Yd hbox 0).trans rfl; have hcz1 : w5.cell? ⟨gd, 1, none⟩ = some (.slice A0 l0.length c0) := (Yd hbox 1).trans rfl; clear hb hg hbox))
 have HB1 := Yj (show Below w.heap.size w w5.drew from Yh HB.out)
 have BKD1 := Yj (show w5.drew.heap[gd]? = _ from BKD.out)
 clear HB BKD
 have HB := HB1
 have BKD := BKD1
 clear HB1 BKD1
 (try clear hcz0)
 (try clear hcz1)
 refine start_ (n := 10) (S := fun w' => w'.cell? ⟨gd, 0, none⟩ = some (.int .i64 a0) ∧ w'.cell? ⟨gd, 1, none⟩ = some (.slice A0 l0.length c0)) (ds := []) #[false, false, false, false, false, false, false, false, false, false] (by kernel_rfl) rfl rfl ⟨(Yd BKD.out 0).trans rfl, (Yd BKD.out 1).trans rfl⟩ (fun hHeld => ?_)
 refine with_tabW impl_building.tab1 impl_building.bits1 (fun HT_ HW_ => ?_)
 generalize w5.drew = w6 at HB BKD hHeld ⊢
 refine pure_ (i := 0) (N := some 8) (v := ?_) (a' := ?_) #[true, false, false, false, false, false, false, false, false, false] rfl rfl (any_of HT_.out (by kernel_rfl)) (fun _ _ _ h => h) (Or.inl ⟨by rfl, ?_⟩) ?_ ?_
 rotate_left
 ·intro w'
  go_simp
  with_reducible rfl
 rotate_left
 ·simp only [Act.put, List.setIfInBounds_toArray, List.set_cons_zero, List.set_cons_succ, i64_w, i32_w]
  rfl
 refine pure_ (i := 2) (N := some 10) (v := ?_) (a' := ?_) #[true, false, true, false, false, false, false, false, false, false] rfl rfl (any_of HT_.out (by kernel_rfl)) (fun _ _ _ h => h) (Or.inl ⟨by rfl, ?_⟩) ?_ ?_
 rotate_left
 ·intro w'
  go_simp
  with_reducible rfl
 rotate_left
 ·simp only [Act.put, List.setIfInBounds_toArray, List.set_cons_zero, List.set_cons_succ, i64_w, i32_w]
  rfl
 refine take_ (i := 1) (N := some 9) (v := ?_) (a' := ?_) #[true, true, true, false, false, false, false, false, false, false] rfl rfl (take_ofW HT_.out HW_.out (by kernel_rfl)) (fun _ _ _ h => h) (Or.inl ⟨by rfl, ?_⟩) hHeld ?_ ?_
 rotate_left
 ·rintro w' ⟨s0, s1⟩
  go_simp
  with_reducible rfl
 rotate_left
 ·simp only [Act.put, List.setIfInBounds_toArray, List.set_cons_zero, List.set_cons_succ, i64_w, i32_w]
  rfl
 refine take_ (i := 3) (N := some 11) (v := ?_) (a' := ?_) #[true, true, true, true, false, false, false, false, false, false] rfl rfl (take_ofW HT_.out HW_.out (by kernel_rfl)) (fun _ _ _ h => h) (Or.inl ⟨by rfl, ?_⟩) hHeld ?_ ?_
 rotate_left
 ·rintro w' ⟨s0, s1⟩
  go_simp
  with_reducible rfl
 rotate_left
 ·simp only [Act.put, List.setIfInBounds_toArray, List.set_cons_zero, List.set_cons_succ, i64_w, i32_w]
  rfl
 refine join_ (σ := Option Addr × Nat × Nat) 3 #[true, true, true, true, true, true, true, false, false, false] (fun s => [(12, .slice s.1 l0.length s.2.1), (13, .agg #[.int .i64 a0, .slice s.1 l0.length s.2.1]), (14, .map (some s.2.2))]) (fun s w' => Kd.R k57 57 w' w.heap.size (fun _ => True) (.slice s.1 l0.length s.2.1) l0 ∧ Go.Proofs.YthphgkhmeobadaaX.MapF impl_building.key impl_building.elem w' s.2.2 0 (fun _ => none) ∧ w.heap.size ≤ s.2.2 ∧ w'.heap[gd]? = some (.cells #[.int .i64 a0, .slice A0 l0.length c0] 28 (0, 0)) ∧ Below w.heap.size w w') ?_ ?_
 rotate_left
 ·intro hCont
  refine two_ (i := 4) (j := 6) (Ni := some 12) (Nj := some 14) #[true, true, true, true, true, false, false, false, false, false] #[true, true, true, true, false, false, true, false, false, false] rfl rfl rfl rfl (two_of HT_.out (by kernel_rfl)) (by decide) (by decide) (fun K hK => ?_) (fun K hK => ?_)
  ·skip
   refine goes_ Try.func42 (by kernel_rfl) rfl #[.slice A0 l0.length c0] (by rfl) rfl rfl (by (try simp only [List.map_toArray, List.map_cons, List.map_nil]); first | done | rfl) ?_
   with_reducible refine (impl_And_42.calls A0 c0 l0 l0 _ (Kd.C_below HR.out HB.out) HC.out HSC.out).mono ?_
   rintro e wn ⟨v1, rfl, ho, hb⟩
   obtain ⟨A1, c1, rfl, hc1, hC1⟩ := Kd.R_reads ho
   refine ⟨_, rfl, ?_⟩
   clear hc1 hC1
   have HO := Yj (Kd.R_lower ho HB.out.size)
   clear ho
   have n0_ := Yj ((hb.block _ (blk_lt BKD.out)).trans BKD.out)
   have n1_ := Yj (below_step HB.out hb)
   clear BKD
   clear HB
   have BKD := n0_
   have HB := n1_
   clear n0_ n1_
   clear hb
   refine hK.out _ _ ⟨(Yd BKD.out 0).trans rfl, (Yd BKD.out 1).trans rfl⟩ (fun hHeld => ?_)
   clear hK K
   refine norm_ (a' := ?_) ?_ ?_
   rotate_left
   ·show Act.put _ (some 12) _ = _
    simp only [Act.put, List.setIfInBounds_toArray, List.set_cons_zero, List.set_cons_succ, i64_w, i32_w]
    rfl
   refine pure_ (i := 5) (N := some 13) (v := ?_) (a' := ?_) #[true, true, true, true, true, true, false, false, false, false] rfl rfl (any_of HT_.out (by kernel_rfl)) (fun _ _ _ h => h) (Or.inl ⟨by rfl, ?_⟩) ?_ ?_
   rotate_left
   ·intro w'
    go_simp
    with_reducible rfl
   rotate_left
   ·simp only [Act.put, List.setIfInBounds_toArray, List.set_cons_zero, List.set_cons_succ, i64_w, i32_w]
    rfl
   refine one_ (i := 6) (N := some 14) #[true, true, true, true, true, true, true, false, false, false] rfl rfl (one_of HT_.out (by kernel_rfl)) (by decide) (fun K hK => ?_)
   refine Go.Proofs.YthphgkhmeobadaaX.map_step impl_building.key impl_building.elem (by rfl) (N := 14) rfl rfl ?_
   intro bm hbm wn hm hb
   have HM := Yj hm
   have GM := Yj (show w.heap.size ≤ bm by rw [hbm]; exact HB.out.size)
   clear hm hbm
   have n0_ := Yj ((hb.block _ (blk_lt BKD.out)).trans BKD.out)
   have n1_ := Yj (below_step HB.out hb)
   have n2_ := Yj (Kd.R_below HO.out hb)
   clear BKD
   clear HB
   clear HO
   have BKD := n0_
   have HB := n1_
   have HO := n2_
   clear n0_ n1_ n2_
   clear hb
   refine hK.out _ _ ⟨(Yd BKD.out 0).trans rfl, (Yd BKD.out 1).trans rfl⟩ (fun hHeld => ?_)
   clear hK K
   refine norm_ (a' := ?_) ?_ ?_
   rotate_left
   ·show Act.put _ (some 14) _ = _
    simp only [Act.put, List.setIfInBounds_toArray, List.set_cons_zero, List.set_cons_succ, i64_w, i32_w]
    rfl
   exact norm_ (by simp only [putAll, Act.put, List.setIfInBounds_toArray, List.set_cons_zero, List.set_cons_succ]) (hCont (A1, c1, bm) _ ⟨HO.out, HM.out, GM.out, BKD.out, HB.out⟩)
  ·skip
   refine Go.Proofs.YthphgkhmeobadaaX.map_step impl_building.key impl_building.elem (by rfl) (N := 14) rfl rfl ?_
   intro bm hbm wn hm hb
   have HM := Yj hm
   have GM := Yj (show w.heap.size ≤ bm by rw [hbm]; exact HB.out.size)
   clear hm hbm
   have n0_ := Yj ((hb.block _ (blk_lt BKD.out)).trans BKD.out)
   have n1_ := Yj (below_step HB.out hb)
   clear BKD
   clear HB
   have BKD := n0_
   have HB := n1_
   clear n0_ n1_
   clear hb
   refine hK.out _ _ ⟨(Yd BKD.out 0).trans rfl, (Yd BKD.out 1).trans rfl⟩ (fun hHeld => ?_)
   clear hK K
   refine norm_ (a' := ?_) ?_ ?_
   rotate_left
   ·show Act.put _ (some 14) _ = _
    simp only [Act.put, List.setIfInBounds_toArray, List.set_cons_zero, List.set_cons_succ, i64_w, i32_w]
    rfl
   refine one_ (i := 4) (N := some 12) #[true, true, true, true, true, false, true, false, false, false] rfl rfl (one_of HT_.out (by kernel_rfl)) (by decide) (fun K hK => ?_)
   refine goes_ Try.func42 (by kernel_rfl) rfl #[.slice A0 l0.length c0] (by rfl) rfl rfl (by (try simp only [List.map_toArray, List.map_cons, List.map_nil]); first | done | rfl) ?_
   with_reducible refine (impl_And_42.calls A0 c0 l0 l0 _ (Kd.C_below HR.out HB.out) HC.out HSC.out).mono ?_
   rintro e wn ⟨v1, rfl, ho, hb⟩
   obtain ⟨A1, c1, rfl, hc1, hC1⟩ := Kd.R_reads ho
   refine ⟨_, rfl, ?_⟩
   clear hc1 hC1
   have HO := Yj (Kd.R_lower ho HB.out.size)
   clear ho
   have n0_ := Yj ((hb.block _ (blk_lt BKD.out)).trans BKD.out)
   have n1_ := Yj (below_step HB.out hb)
   have n2_ := Yj (HM.out.below hb)
   clear BKD
   clear HB
   clear HM
   have BKD := n0_
   have HB := n1_
   have HM := n2_
   clear n0_ n1_ n2_
   clear hb
   refine hK.out _ _ ⟨(Yd BKD.out 0).trans rfl, (Yd BKD.out 1).trans rfl⟩ (fun hHeld => ?_)
   clear hK K
   refine norm_ (a' := ?_) ?_ ?_
   rotate_left
   ·show Act.put _ (some 12) _ = _
    simp only [Act.put, List.setIfInBounds_toArray, List.set_cons_zero, List.set_cons_succ, i64_w, i32_w]
    rfl
   refine pure_ (i := 5) (N := some 13) (v := ?_) (a' := ?_) #[true, true, true, true, true, true, true, false, false, false] rfl rfl (any_of HT_.out (by kernel_rfl)) (fun _ _ _ h => h) (Or.inl ⟨by rfl, ?_⟩) ?_ ?_
   rotate_left
   ·intro w'
    go_simp
    with_reducible rfl
   rotate_left
   ·simp only [Act.put, List.setIfInBounds_toArray, List.set_cons_zero, List.set_cons_succ, i64_w, i32_w]
    rfl
   exact norm_ (by simp only [putAll, Act.put, List.setIfInBounds_toArray, List.set_cons_zero, List.set_cons_succ]) (hCont (A1, c1, bm) _ ⟨HO.out, HM.out, GM.out, BKD.out, HB.out⟩)
 clear BKD HB
 rintro ⟨A1, c1, bm⟩ wj ⟨ho, hm, gm, bkd, hb⟩
 have HO := Yj ho
 have HM := Yj hm
 have GM := Yj gm
 have BKD := Yj bkd
 have HB := Yj hb
 clear ho hm gm bkd hb
 simp only at HO HM GM
 have hHeld : wj.cell? ⟨gd, 0, none⟩ = some (.int .i64 a0) ∧ wj.cell? ⟨gd, 1, none⟩ = some (.slice A0 l0.length c0) := ⟨(Yd BKD.out 0).trans rfl, (Yd BKD.out 1).trans rfl⟩
 refine norm_ (a' := ?_) ?_ ?_
 rotate_left
 ·simp only [putAll, Act.put, List.setIfInBounds_toArray, List.set_cons_zero, List.set_cons_succ]
  rfl
 refine pure_ (i := 7) (N := some 15) (v := ?_) (a' := ?_) #[true, true, true, true, true, true, true, true, false, false] rfl rfl (any_of HT_.out (by kernel_rfl)) (fun _ _ _ h => h) (Or.inl ⟨by rfl, ?_⟩) ?_ ?_
 rotate_left
 ·intro w'
  go_simp
  with_reducible rfl
 rotate_left
 ·simp only [Act.put, List.setIfInBounds_toArray, List.set_cons_zero, List.set_cons_succ, i64_w, i32_w]
  rfl
 refine one_ (i := 8) (N := some 16) #[true, true, true, true, true, true, true, true, true, false] rfl rfl (one_of HT_.out (by kernel_rfl)) (by decide) (fun K hK => ?_)
 refine box_step ?hg (N := 16) ?hd (cs := #[.int .i64 a0, .slice A1 l0.length c1, .map (some bm), .bool false]) (t := 67) ?hr ?_; (case hd => rfl); (case hg => rfl); (case hr => first | (go_simp; done) | (go_simp; rfl))
 intro gb hgb wb hbox hb
 have GB := Yj (show w.heap.size ≤ gb by rw [hgb]; exact HB.out.size)
 have BKB := Yj hbox
 have n0_ := Yj ((hb.block _ (blk_lt BKD.out)).trans BKD.out)
 have n1_ := Yj (below_step HB.out hb)
 have n2_ := Yj (HM.out.below hb)
 have n3_ := Yj (Kd.R_below HO.out hb)
 clear BKD HB HM HO
 have BKD := n0_
 have HB := n1_
 have HM := n2_
 have HO := n3_
 clear n0_ n1_ n2_ n3_ hb hbox hgb
 refine hK.out _ _ ⟨(Yd BKD.out 0).trans rfl, (Yd BKD.out 1).trans rfl⟩ (fun hHeld => ?_)
 clear hK K
 refine norm_ (a' := ?_) ?_ ?_
 rotate_left
 ·show Act.put _ (some 16) _ = _
  simp only [Act.put, List.setIfInBounds_toArray, List.set_cons_zero, List.set_cons_succ, i64_w, i32_w]
  rfl
 refine pure_ (i := 9) (N := some 3) (v := ?_) (a' := ?_) #[true, true, true, true, true, true, true, true, true, true] rfl rfl (any_of HT_.out (by kernel_rfl)) (fun _ _ _ h => h) (Or.inl ⟨by rfl, ?_⟩) ?_ ?_
 rotate_left
 ·intro w'
  go_simp
  with_reducible rfl
 rotate_left
 ·simp only [Act.put, List.setIfInBounds_toArray, List.set_cons_zero, List.set_cons_succ, i64_w, i32_w]
  rfl
 refine done_ (done_of HT_.out (by kernel_rfl)) ?_
 have hcd0 := (Yd BKD.out 0).trans rfl
 have hcd1 := (Yd BKD.out 1).trans rfl
 go_wp2
 go_loopg [20] (l0.length + 1) (fun kq v20 wr => ∃ x : Int, v20 = .int .i64 x ∧ Aside0 (0 ≤ x ∧ x ≤ l0.length ∧ (kq : Int) + x = l0.length + 1) ∧ Aside0 (Go.Proofs.YthphgkhmeobadaaX.MapF impl_building.key impl_building.elem wr bm x.toNat (impl_building.seen a0 l0 x.toNat)) ∧ Aside0 (wr.heap[gd]? = some (.cells #[.int .i64 a0, .slice A0 l0.length c0] 28 (0, 0))) ∧ Aside0 (wr.heap[gb]? = some (.cells #[.int .i64 a0, .slice A1 l0.length c1, .map (some bm), .bool false] 67 (0, 0))) ∧ Aside0 (Kd.R k57 57 wr w.heap.size (fun _ => True) (.slice A1 l0.length c1) l0) ∧ Aside0 (Below w.heap.size w wr))
 case atStart => exact ⟨0, rfl, ⟨by omega, by omega, by omega⟩, ⟨HM.out.congr (fun y _ => rfl)⟩, BKD, BKB, HO, HB⟩
 case round =>
  clear hcd0 hcd1 HM BKD BKB HB HO
  obtain ⟨x, rfl, ⟨h0, h1, hk⟩, HM, BKD, BKB, HO, HB⟩ := hrel
  by_cases c3 : x < (l0.length : Int)
  ·skip
   have c3b0 : decide (x < (l0.length : Int)) = true := decide_eq_true c3
   obtain ⟨ad, e_, hx0, hx1⟩ := at_T57 HR.out x h0 c3
   cases e_
   replace hx0 := (HB.out.cell (World.block_lt_of_cell? w _ hx0)).trans hx0
   replace hx1 := (HB.out.cell (World.block_lt_of_cell? w _ hx1)).trans hx1
   have p_ := eq_true h0
   have q_ := eq_true c3
   have HX := Yj (And.intro h0 (And.intro h1 hk))
   have HGD : impl_building.key.good (rd_T57 l0 x) := HG.out _ (by unfold rd_T57; rw [List.getD_eq_getElem?_getD, List.getElem?_eq_getElem (by omega)]; exact List.getElem_mem _)
   have HGD := Yj HGD
   go_wp2_with (first | ((with_reducible refine gate_dst (N := 5) rfl ?_); refine box_event ?hg (N := 5) ?hd (cs := #[.int .i64 0, .int .i64 0]) (t := 57) ?hr ?_; (case hd => rfl); (case hg => rfl); (case hr => first | (go_simp; done) | (go_simp; rfl)); intro gf hgf w7 hbox hb; have NE1 := Yj (show bm ≠ gf by have := HM.out.lt; omega); have NE2 := Yj (show gd ≠ gf by have := blk_lt BKD.out; omega); have NE3 := Yj (show gb ≠ gf by have := blk_lt BKB.out; omega); have GE := Yj (show w.heap.size ≤ gf by rw [hgf]; exact HB.out.size); have n1_ := Yj ((hb.block _ (blk_lt BKD.out)).trans BKD.out); have n2_ := Yj (HM.out.below hb); have n3_ := Yj (below_step HB.out hb); have n4_ := Yj ((hb.block _ (blk_lt BKB.out)).trans BKB.out); have n5_ := Yj (Kd.R_elderB HO.out gf (by rw [hgf]; exact Nat.le_refl _)); have n6_ := Yj (Kd.R_below n5_.out hb); clear BKD HM HB BKB HO n5_; have BKD := n1_; have HM := n2_; have HB := n3_; have BKB := n4_; have HO := n6_; have BKF := Yj hbox; clear n1_ n2_ n3_ n4_ n6_ hb hgf; have hcz0 : w7.cell? ⟨gf, 0, none⟩ = some (.int .i64 0) := (Yd hbox 0).trans rfl; have hcz1 : w7.cell? ⟨gf, 1, none⟩ = some (.int .i64 0) := (Yd hbox 1).trans rfl; have hfz0 := Ye hbox 0; have hfz1 := Ye hbox 1; clear hbox))
   generalize hW : (w7.setCell ⟨gf, 0, none⟩ (.int .i64 ((rd_T57 l0 x).f0))).setCell ⟨gf, 1, none⟩ (.int .i64 ((rd_T57 l0 x).f1)) = wz
   have BKF2 : wz.drew.heap[gf]? = some (.cells #[.int .i64 ((rd_T57 l0 x).f0), .int .i64 ((rd_T57 l0 x).f1)] 57 (0, 0)) := by
    show wz.heap[gf]? = _
    rw [← hW]
    refine blk_put (cs := #[.int .i64 ((rd_T57 l0 x).f0), .int .i64 0]) ?_ 1 _ rfl
    refine blk_put (cs := #[.int .i64 0, .int .i64 0]) ?_ 0 _ rfl
    exact BKF.out
   have BKD2 : wz.drew.heap[gd]? = some (.cells #[.int .i64 a0, .slice (some ad) l0.length c0] 28 (0, 0)) := by
    show wz.heap[gd]? = _
    rw [← hW]
    exact blk_far (blk_far BKD.out NE2.out _) NE2.out _
   have BKB2 : wz.drew.heap[gb]? = some (.cells #[.int .i64 a0, .slice A1 l0.length c1, .map (some bm), .bool false] 67 (0, 0)) := by
    show wz.heap[gb]? = _
    rw [← hW]
    exact blk_far (blk_far BKB.out NE3.out _) NE3.out _
   have HM2 := HM.out.move (w' := wz.drew) (by
    show wz.heap[bm]? = _
    rw [← hW, Below.heap_setCell _ _ _ _ NE1.out, Below.heap_setCell _ _ _ _ NE1.out])
   have HO2 : Kd.R k57 57 wz.drew w.heap.size (fun _ => True) (.slice A1 l0.length c1) l0 := by
    refine Kd.R_drew ?_
    rw [← hW]
    exact Kd.R_mono (Kd.R_far (p := ⟨gf, 1, none⟩) (Kd.R_far (p := ⟨gf, 0, none⟩) HO.out (fun _ hk => hk.2) _) (fun _ hk => hk.2) _) (fun _ _ => trivial)
   have HB2 : Below w.heap.size w wz.drew := Yh (by rw [← hW]; exact Yi (Yi HB.out GE.out) GE.out)
   clear hW hcz0 hcz1 hfz0 hfz1 hx0 hx1 BKF BKD HM HB BKB HO
   have BKF := Yj BKF2
   have BKD := Yj BKD2
   have BKB := Yj BKB2
   have HM := Yj HM2
   have HO := Yj HO2
   have HB := Yj HB2
   clear BKF2 BKD2 BKB2 HM2 HO2 HB2
   cases hs : impl_building.seen a0 l0 x.toNat (rd_T57 l0 x) with
   | some e =>
    have HS := Yj hs
    clear hs
    refine start_ (n := 11) (S := fun w' => w'.cell? ⟨gb, 2, none⟩ = some (.map (some bm)) ∧ w'.cell? ⟨gf, 0, none⟩ = some (.int .i64 ((rd_T57 l0 x).f0)) ∧ w'.cell? ⟨gf, 1, none⟩ = some (.int .i64 ((rd_T57 l0 x).f1)) ∧ (Instr.lookup 65 (.map (some bm)) (.agg #[.int .i64 ((rd_T57 l0 x).f0), .int .i64 ((rd_T57 l0 x).f1)]) true).run Try.prog w' = .ok (.tuple #[.int .i64 e, .bool true]) w') (ds := []) #[false, false, false, false, false, false, false, false, false, false, false] (by kernel_rfl) rfl rfl ⟨(Yd BKB.out 2).trans rfl, (Yd BKF.out 0).trans rfl, (Yd BKF.out 1).trans rfl, ((HM.out.look_ok Try.underlying65 HGD.out).trans (congrArg (fun q_ : Option Int => Result.ok (Value.tuple #[Value.int .i64 (q_.getD 0), .bool q_.isSome]) _) HS.out))⟩ (fun hHeld => ?_)
    refine with_tabW impl_building.tab5 impl_building.bits5 (fun HT_ HW_ => ?_)
    generalize wz.drew = wy at BKF BKD BKB HM HO HB hHeld ⊢
    refine pure_ (i := 0) (N := some 26) (v := ?_) (a' := ?_) #[true, false, false, false, false, false, false, false, false, false, false] rfl rfl (any_of HT_.out (by kernel_rfl)) (fun _ _ _ h => h) (Or.inl ⟨by rfl, ?_⟩) ?_ ?_
    rotate_left
    ·intro w'
     go_simp
     with_reducible rfl
    rotate_left
    ·simp only [Act.put, List.setIfInBounds_toArray, List.set_cons_zero, List.set_cons_succ, i64_w, i32_w]
     rfl
    refine pure_ (i := 1) (N := some 27) (v := ?_) (a' := ?_) #[true, true, false, false, false, false, false, false, false, false, false] rfl rfl (any_of HT_.out (by kernel_rfl)) (fun _ _ _ h => h) (Or.inl ⟨by rfl, ?_⟩) ?_ ?_
    rotate_left
    ·intro w'
     go_simp
     with_reducible rfl
    rotate_left
    ·simp only [Act.put, List.setIfInBounds_toArray, List.set_cons_zero, List.set_cons_succ, i64_w, i32_w]
     rfl
    refine pure_ (i := 2) (N := some 28) (v := ?_) (a' := ?_) #[true, true, true, false, false, false, false, false, false, false, false] rfl rfl (any_of HT_.out (by kernel_rfl)) (fun _ _ _ h => h) (Or.inl ⟨by rfl, ?_⟩) ?_ ?_
    rotate_left
    ·intro w'
     go_simp
     with_reducible rfl
    rotate_left
    ·simp only [Act.put, List.setIfInBounds_toArray, List.set_cons_zero, List.set_cons_succ, i64_w, i32_w]
     rfl
    refine take_ (i := 3) (N := some 29) (v := ?_) (a' := ?_) #[true, true, true, true, false, false, false, false, false, false, false] rfl rfl (take_ofW HT_.out HW_.out (by kernel_rfl)) (fun _ _ _ h => h) (Or.inl ⟨by rfl, ?_⟩) hHeld ?_ ?_
    rotate_left
    ·rintro w' ⟨s0, s1, s2, s3⟩
     go_simp
     with_reducible rfl
    rotate_left
    ·simp only [Act.put, List.setIfInBounds_toArray, List.set_cons_zero, List.set_cons_succ, i64_w, i32_w]
     rfl
    refine take_ (i := 4) (N := some 30) (v := ?_) (a' := ?_) #[true, true, true, true, true, false, false, false, false, false, false] rfl rfl (take_ofW HT_.out HW_.out (by kernel_rfl)) (fun _ _ _ h => h) (Or.inl ⟨by rfl, ?_⟩) hHeld ?_ ?_
    rotate_left
    ·rintro w' ⟨s0, s1, s2, s3⟩
     go_simp
     with_reducible rfl
    rotate_left
    ·simp only [Act.put, List.setIfInBounds_toArray, List.set_cons_zero, List.set_cons_succ, i64_w, i32_w]
     rfl
    refine take_ (i := 5) (N := some 31) (v := ?_) (a' := ?_) #[true, true, true, true, true, true, false, false, false, false, false] rfl rfl (take_ofW HT_.out HW_.out (by kernel_rfl)) (fun _ _ _ h => h) (Or.inl ⟨by rfl, ?_⟩) hHeld ?_ ?_
    rotate_left
    ·rintro w' ⟨s0, s1, s2, s3⟩
     go_simp
     with_reducible rfl
    rotate_left
    ·simp only [Act.put, List.setIfInBounds_toArray, List.set_cons_zero, List.set_cons_succ, i64_w, i32_w]
     rfl
    refine pure_ (i := 6) (N := some 25) (v := ?_) (a' := ?_) #[true, true, true, true, true, true, true, false, false, false, false] rfl rfl (any_of HT_.out (by kernel_rfl)) (fun _ _ _ h => h) (Or.inl ⟨by rfl, ?_⟩) ?_ ?_
    rotate_left
    ·intro w'
     go_simp
     with_reducible rfl
    rotate_left
    ·simp only [Act.put, List.setIfInBounds_toArray, List.set_cons_zero, List.set_cons_succ, i64_w, i32_w]
     rfl
    refine pure_ (i := 7) (N := some 32) (v := ?_) (a' := ?_) #[true, true, true, true, true, true, true, true, false, false, false] rfl rfl (any_of HT_.out (by kernel_rfl)) (fun _ _ _ h => h) (Or.inl ⟨by rfl, ?_⟩) ?_ ?_
    rotate_left
    ·intro w'
     go_simp
     with_reducible rfl
    rotate_left
    ·simp only [Act.put, List.setIfInBounds_toArray, List.set_cons_zero, List.set_cons_succ, i64_w, i32_w]
     rfl
    refine pure_ (i := 8) (N := some 33) (v := ?_) (a' := ?_) #[true, true, true, true, true, true, true, true, true, false, false] rfl rfl (any_of HT_.out (by kernel_rfl)) (fun _ _ _ h => h) (Or.inl ⟨by rfl, ?_⟩) ?_ ?_
    rotate_left
    ·intro w'
     go_simp
     with_reducible rfl
    rotate_left
    ·simp only [Act.put, List.setIfInBounds_toArray, List.set_cons_zero, List.set_cons_succ, i64_w, i32_w]
     rfl
    refine pure_ (i := 9) (N := some 6) (v := ?_) (a' := ?_) #[true, true, true, true, true, true, true, true, true, true, false] rfl rfl (any_of HT_.out (by kernel_rfl)) (fun _ _ _ h => h) (Or.inl ⟨by rfl, ?_⟩) ?_ ?_
    rotate_left
    ·intro w'
     go_simp
     with_reducible rfl
    rotate_left
    ·simp only [Act.put, List.setIfInBounds_toArray, List.set_cons_zero, List.set_cons_succ, i64_w, i32_w]
     rfl
    refine pure_ (i := 10) (N := some 7) (v := ?_) (a' := ?_) #[true, true, true, true, true, true, true, true, true, true, true] rfl rfl (any_of HT_.out (by kernel_rfl)) (fun _ _ _ h => h) (Or.inl ⟨by rfl, ?_⟩) ?_ ?_
    rotate_left
    ·intro w'
     go_simp
     with_reducible rfl
    rotate_left
    ·simp only [Act.put, List.setIfInBounds_toArray, List.set_cons_zero, List.set_cons_succ, i64_w, i32_w]
     rfl
    refine done_ (done_of HT_.out (by kernel_rfl)) ?_
    go_wp2
    have hw : wrap64 (x + 1) = x + 1 := by have := HX.out; unfold wrap64; omega
    go_roundg (gk - 1)
    case measure => have := HX.out; omega
    case rel =>
     have e1 : (x + 1).toNat = x.toNat + 1 := by omega
     refine ⟨x + 1, (by (try rw [hw]); rfl), ⟨by have := HX.out; omega, by have := HX.out; omega, by have := HX.out; omega⟩, ⟨?_⟩, BKD, BKB, HO, HB⟩
     rw [e1]
     refine (HM.out.mono (Nat.le_succ _)).congr fun y _ => ?_
     rw [impl_building.seen_succ a0 l0 x h0 c3 y]
     by_cases hy : impl_building.eqS y (rd_T57 l0 x) = true
     ·have hq : y = (rd_T57 l0 x) := by unfold impl_building.eqS at hy; obtain ⟨z0, z1⟩ := of_decide_eq_true hy; cases y; cases hq : (rd_T57 l0 x); simp_all
      rw [hq, HS.out]
     ·rw [if_neg hy]
      cases impl_building.seen a0 l0 x.toNat y <;> rfl
   | none =>
    have HS := Yj hs
    clear hs
    refine start_ (n := 11) (S := fun w' => w'.cell? ⟨gb, 2, none⟩ = some (.map (some bm)) ∧ w'.cell? ⟨gf, 0, none⟩ = some (.int .i64 ((rd_T57 l0 x).f0)) ∧ w'.cell? ⟨gf, 1, none⟩ = some (.int .i64 ((rd_T57 l0 x).f1)) ∧ (Instr.lookup 65 (.map (some bm)) (.agg #[.int .i64 ((rd_T57 l0 x).f0), .int .i64 ((rd_T57 l0 x).f1)]) true).run Try.prog w' = .ok (.tuple #[.int .i64 0, .bool false]) w') (ds := []) #[false, false, false, false, false, false, false, false, false, false, false] (by kernel_rfl) rfl rfl ⟨(Yd BKB.out 2).trans rfl, (Yd BKF.out 0).trans rfl, (Yd BKF.out 1).trans rfl, ((HM.out.look_ok Try.underlying65 HGD.out).trans (congrArg (fun q_ : Option Int => Result.ok (Value.tuple #[Value.int .i64 (q_.getD 0), .bool q_.isSome]) _) HS.out))⟩ (fun hHeld => ?_)
    refine with_tabW impl_building.tab5 impl_building.bits5 (fun HT_ HW_ => ?_)
    generalize wz.drew = wy at BKF BKD BKB HM HO HB hHeld ⊢
    refine pure_ (i := 0) (N := some 26) (v := ?_) (a' := ?_) #[true, false, false, false, false, false, false, false, false, false, false] rfl rfl (any_of HT_.out (by kernel_rfl)) (fun _ _ _ h => h) (Or.inl ⟨by rfl, ?_⟩) ?_ ?_
    rotate_left
    ·intro w'
     go_simp
     with_reducible rfl
    rotate_left
    ·simp only [Act.put, List.setIfInBounds_toArray, List.set_cons_zero, List.set_cons_succ, i64_w, i32_w]
     rfl
    refine pure_ (i := 1) (N := some 27) (v := ?_) (a' := ?_) #[true, true, false, false, false, false, false, false, false, false, false] rfl rfl (any_of HT_.out (by kernel_rfl)) (fun _ _ _ h => h) (Or.inl ⟨by rfl, ?_⟩) ?_ ?_
    rotate_left
    ·intro w'
     go_simp
     with_reducible rfl
    rotate_left
    ·simp only [Act.put, List.setIfInBounds_toArray, List.set_cons_zero, List.set_cons_succ, i64_w, i32_w]
     rfl
    refine pure_ (i := 2) (N := some 28) (v := ?_) (a' := ?_) #[true, true, true, false, false, false, false, false, false, false, false] rfl rfl (any_of HT_.out (by kernel_rfl)) (fun _ _ _ h => h) (Or.inl ⟨by rfl, ?_⟩) ?_ ?_
    rotate_left
    ·intro w'
     go_simp
     with_reducible rfl
    rotate_left
    ·simp only [Act.put, List.setIfInBounds_toArray, List.set_cons_zero, List.set_cons_succ, i64_w, i32_w]
     rfl
    refine take_ (i := 3) (N := some 29) (v := ?_) (a' := ?_) #[true, true, true, true, false, false, false, false, false, false, false] rfl rfl (take_ofW HT_.out HW_.out (by kernel_rfl)) (fun _ _ _ h => h) (Or.inl ⟨by rfl, ?_⟩) hHeld ?_ ?_
    rotate_left
    ·rintro w' ⟨s0, s1, s2, s3⟩
     go_simp
     with_reducible rfl
    rotate_left
    ·simp only [Act.put, List.setIfInBounds_toArray, List.set_cons_zero, List.set_cons_succ, i64_w, i32_w]
     rfl
    refine take_ (i := 4) (N := some 30) (v := ?_) (a' := ?_) #[true, true, true, true, true, false, false, false, false, false, false] rfl rfl (take_ofW HT_.out HW_.out (by kernel_rfl)) (fun _ _ _ h => h) (Or.inl ⟨by rfl, ?_⟩) hHeld ?_ ?_
    rotate_left
    ·rintro w' ⟨s0, s1, s2, s3⟩
     go_simp
     with_reducible rfl
    rotate_left
    ·simp only [Act.put, List.setIfInBounds_toArray, List.set_cons_zero, List.set_cons_succ, i64_w, i32_w]
     rfl
    refine take_ (i := 5) (N := some 31) (v := ?_) (a' := ?_) #[true, true, true, true, true, true, false, false, false, false, false] rfl rfl (take_ofW HT_.out HW_.out (by kernel_rfl)) (fun _ _ _ h => h) (Or.inl ⟨by rfl, ?_⟩) hHeld ?_ ?_
    rotate_left
    ·rintro w' ⟨s0, s1, s2, s3⟩
     go_simp
     with_reducible rfl
    rotate_left
    ·simp only [Act.put, List.setIfInBounds_toArray, List.set_cons_zero, List.set_cons_succ, i64_w, i32_w]
     rfl
    refine pure_ (i := 6) (N := some 25) (v := ?_) (a' := ?_) #[true, true, true, true, true, true, true, false, false, false, false] rfl rfl (any_of HT_.out (by kernel_rfl)) (fun _ _ _ h => h) (Or.inl ⟨by rfl, ?_⟩) ?_ ?_
    rotate_left
    ·intro w'
     go_simp
     with_reducible rfl
    rotate_left
    ·simp only [Act.put, List.setIfInBounds_toArray, List.set_cons_zero, List.set_cons_succ, i64_w, i32_w]
     rfl
    refine pure_ (i := 7) (N := some 32) (v := ?_) (a' := ?_) #[true, true, true, true, true, true, true, true, false, false, false] rfl rfl (any_of HT_.out (by kernel_rfl)) (fun _ _ _ h => h) (Or.inl ⟨by rfl, ?_⟩) ?_ ?_
    rotate_left
    ·intro w'
     go_simp
     with_reducible rfl
    rotate_left
    ·simp only [Act.put, List.setIfInBounds_toArray, List.set_cons_zero, List.set_cons_succ, i64_w, i32_w]
     rfl
    refine pure_ (i := 8) (N := some 33) (v := ?_) (a' := ?_) #[true, true, true, true, true, true, true, true, true, false, false] rfl rfl (any_of HT_.out (by kernel_rfl)) (fun _ _ _ h => h) (Or.inl ⟨by rfl, ?_⟩) ?_ ?_
    rotate_left
    ·intro w'
     go_simp
     with_reducible rfl
    rotate_left
    ·simp only [Act.put, List.setIfInBounds_toArray, List.set_cons_zero, List.set_cons_succ, i64_w, i32_w]
     rfl
    refine pure_ (i := 9) (N := some 6) (v := ?_) (a' := ?_) #[true, true, true, true, true, true, true, true, true, true, false] rfl rfl (any_of HT_.out (by kernel_rfl)) (fun _ _ _ h => h) (Or.inl ⟨by rfl, ?_⟩) ?_ ?_
    rotate_left
    ·intro w'
     go_simp
     with_reducible rfl
    rotate_left
    ·simp only [Act.put, List.setIfInBounds_toArray, List.set_cons_zero, List.set_cons_succ, i64_w, i32_w]
     rfl
    refine pure_ (i := 10) (N := some 7) (v := ?_) (a' := ?_) #[true, true, true, true, true, true, true, true, true, true, true] rfl rfl (any_of HT_.out (by kernel_rfl)) (fun _ _ _ h => h) (Or.inl ⟨by rfl, ?_⟩) ?_ ?_
    rotate_left
    ·intro w'
     go_simp
     with_reducible rfl
    rotate_left
    ·simp only [Act.put, List.setIfInBounds_toArray, List.set_cons_zero, List.set_cons_succ, i64_w, i32_w]
     rfl
    refine done_ (done_of HT_.out (by kernel_rfl)) ?_
    (try go_wp2)
    have BKF2 := Yj (show wy.drew.heap[gf]? = _ from BKF.out)
    have BKD2 := Yj (show wy.drew.heap[gd]? = _ from BKD.out)
    have BKB2 := Yj (show wy.drew.heap[gb]? = _ from BKB.out)
    have HM2 := Yj (HM.out.move (w' := wy.drew) rfl)
    have HO2 := Yj (Kd.R_drew HO.out)
    have HB2 := Yj (show Below w.heap.size w wy.drew from Yh HB.out)
    clear BKF BKD BKB HM HO HB
    have BKF := BKF2
    have BKD := BKD2
    have BKB := BKB2
    have HM := HM2
    have HO := HO2
    have HB := HB2
    clear BKF2 BKD2 BKB2 HM2 HO2 HB2
    refine start_ (n := 12) (S := fun w' => w'.cell? ⟨gb, 2, none⟩ = some (.map (some bm)) ∧ w'.cell? ⟨gf, 0, none⟩ = some (.int .i64 ((rd_T57 l0 x).f0)) ∧ w'.cell? ⟨gf, 1, none⟩ = some (.int .i64 ((rd_T57 l0 x).f1)) ∧ w'.cell? ⟨gd, 0, none⟩ = some (.int .i64 a0)) (ds := [11]) #[false, false, false, false, false, false, false, false, false, false, false, false] (by kernel_rfl) rfl rfl ⟨(Yd BKB.out 2).trans rfl, (Yd BKF.out 0).trans rfl, (Yd BKF.out 1).trans rfl, (Yd BKD.out 0).trans rfl⟩ (fun hHeld => ?_)
    refine with_tabW impl_building.tab7 impl_building.bits7 (fun HT_ HW_ => ?_)
    generalize wy.drew = wx at BKF BKD BKB HM HO HB hHeld ⊢
    refine pure_ (i := 0) (N := some 36) (v := ?_) (a' := ?_) #[true, false, false, false, false, false, false, false, false, false, false, false] rfl rfl (any_of HT_.out (by kernel_rfl)) (fun _ _ _ h => h) (Or.inl ⟨by rfl, ?_⟩) ?_ ?_
    rotate_left
    ·intro w'
     go_simp
     with_reducible rfl
    rotate_left
    ·simp only [Act.put, List.setIfInBounds_toArray, List.set_cons_zero, List.set_cons_succ, i64_w, i32_w]
     rfl
    refine pure_ (i := 1) (N := some 37) (v := ?_) (a' := ?_) #[true, true, false, false, false, false, false, false, false, false, false, false] rfl rfl (any_of HT_.out (by kernel_rfl)) (fun _ _ _ h => h) (Or.inl ⟨by rfl, ?_⟩) ?_ ?_
    rotate_left
    ·intro w'
     go_simp
     with_reducible rfl
    rotate_left
    ·simp only [Act.put, List.setIfInBounds_toArray, List.set_cons_zero, List.set_cons_succ, i64_w, i32_w]
     rfl
    refine pure_ (i := 2) (N := some 38) (v := ?_) (a' := ?_) #[true, true, true, false, false, false, false, false, false, false, false, false] rfl rfl (any_of HT_.out (by kernel_rfl)) (fun _ _ _ h => h) (Or.inl ⟨by rfl, ?_⟩) ?_ ?_
    rotate_left
    ·intro w'
     go_simp
     with_reducible rfl
    rotate_left
    ·simp only [Act.put, List.setIfInBounds_toArray, List.set_cons_zero, List.set_cons_succ, i64_w, i32_w]
     rfl
    refine pure_ (i := 5) (N := some 41) (v := ?_) (a' := ?_) #[true, true, true, false, false, true, false, false, false, false, false, false] rfl rfl (any_of HT_.out (by kernel_rfl)) (fun _ _ _ h => h) (Or.inl ⟨by rfl, ?_⟩) ?_ ?_
    rotate_left
    ·intro w'
     go_simp
     with_reducible rfl
    rotate_left
    ·simp only [Act.put, List.setIfInBounds_toArray, List.set_cons_zero, List.set_cons_succ, i64_w, i32_w]
     rfl
    refine pure_ (i := 8) (N := some 44) (v := ?_) (a' := ?_) #[true, true, true, false, false, true, false, false, true, false, false, false] rfl rfl (any_of HT_.out (by kernel_rfl)) (fun _ _ _ h => h) (Or.inl ⟨by rfl, ?_⟩) ?_ ?_
    rotate_left
    ·intro w'
     go_simp
     with_reducible rfl
    rotate_left
    ·simp only [Act.put, List.setIfInBounds_toArray, List.set_cons_zero, List.set_cons_succ, i64_w, i32_w]
     rfl
    refine take_ (i := 3) (N := some 39) (v := ?_) (a' := ?_) #[true, true, true, true, false, true, false, false, true, false, false, false] rfl rfl (take_ofW HT_.out HW_.out (by kernel_rfl)) (fun _ _ _ h => h) (Or.inl ⟨by rfl, ?_⟩) hHeld ?_ ?_
    rotate_left
    ·rintro w' ⟨s0, s1, s2, s3⟩
     go_simp
     with_reducible rfl
    rotate_left
    ·simp only [Act.put, List.setIfInBounds_toArray, List.set_cons_zero, List.set_cons_succ, i64_w, i32_w]
     rfl
    refine take_ (i := 4) (N := some 40) (v := ?_) (a' := ?_) #[true, true, true, true, true, true, false, false, true, false, false, false] rfl rfl (take_ofW HT_.out HW_.out (by kernel_rfl)) (fun _ _ _ h => h) (Or.inl ⟨by rfl, ?_⟩) hHeld ?_ ?_
    rotate_left
    ·rintro w' ⟨s0, s1, s2, s3⟩
     go_simp
     with_reducible rfl
    rotate_left
    ·simp only [Act.put, List.setIfInBounds_toArray, List.set_cons_zero, List.set_cons_succ, i64_w, i32_w]
     rfl
    refine take_ (i := 6) (N := some 42) (v := ?_) (a' := ?_) #[true, true, true, true, true, true, true, false, true, false, false, false] rfl rfl (take_ofW HT_.out HW_.out (by kernel_rfl)) (fun _ _ _ h => h) (Or.inl ⟨by rfl, ?_⟩) hHeld ?_ ?_
    rotate_left
    ·rintro w' ⟨s0, s1, s2, s3⟩
     go_simp
     with_reducible rfl
    rotate_left
    ·simp only [Act.put, List.setIfInBounds_toArray, List.set_cons_zero, List.set_cons_succ, i64_w, i32_w]
     rfl
    refine pure_ (i := 7) (N := some 43) (v := ?_) (a' := ?_) #[true, true, true, true, true, true, true, true, true, false, false, false] rfl rfl (any_of HT_.out (by kernel_rfl)) (fun _ _ _ h => h) (Or.inl ⟨by rfl, ?_⟩) ?_ ?_
    rotate_left
    ·intro w'
     go_simp
     with_reducible rfl
    rotate_left
    ·simp only [Act.put, List.setIfInBounds_toArray, List.set_cons_zero, List.set_cons_succ, i64_w, i32_w]
     rfl
    refine pure_ (i := 9) (N := some 45) (v := ?_) (a' := ?_) #[true, true, true, true, true, true, true, true, true, true, false, false] rfl rfl (any_of HT_.out (by kernel_rfl)) (fun _ _ _ h => h) (Or.inl ⟨by rfl, ?_⟩) ?_ ?_
    rotate_left
    ·intro w'
     go_simp
     with_reducible rfl
    rotate_left
    ·simp only [Act.put, List.setIfInBounds_toArray, List.set_cons_zero, List.set_cons_succ, i64_w, i32_w]
     rfl
    refine pure_ (i := 10) (N := some 46) (v := ?_) (a' := ?_) #[true, true, true, true, true, true, true, true, true, true, true, false] rfl rfl (any_of HT_.out (by kernel_rfl)) (fun _ _ _ h => h) (Or.inl ⟨by rfl, ?_⟩) ?_ ?_
    rotate_left
    ·intro w'
     go_simp
     with_reducible rfl
    rotate_left
    ·simp only [Act.put, List.setIfInBounds_toArray, List.set_cons_zero, List.set_cons_succ, i64_w, i32_w]
     rfl
    refine last_ (i := 11) (N := none) #[true, true, true, true, true, true, true, true, true, true, true, true] rfl rfl (one_of HT_.out (by kernel_rfl)) (by decide) (fun K hK => ?_)
    refine Go.Proofs.YthphgkhmeobadaaX.mapF_store_step (by rfl) rfl (.tmp 39) (.tmp 40) (.tmp 46) 65 rfl Try.underlying65 HM.out ?hn rfl (rd_T57 l0 x) (impl_building.at_ a0 x.toNat) rfl ?hv HGD.out (impl_building.at_wf _ _) ?_
    (case hn => have := HX.out; unfold maxLen; omega)
    (case hv => show Value.int .i64 (wrap64 (2 * (wrap64 ((wrap64 (1 + a0)) + x)))) = _; unfold impl_building.at_; rw [Int.toNat_of_nonneg h0])
    intro w9 hm9 hg9
    have HM9 := Yj hm9
    have HG9 := Yj hg9
    clear hm9 hg9
    refine hK.out _ _ ?_
    clear hK K
    refine done_ (done_of HT_.out (by kernel_rfl)) ?_
    (try go_wp2)
    have hw : wrap64 (x + 1) = x + 1 := by have := HX.out; unfold wrap64; omega
    go_roundg (gk - 1)
    case measure => have := HX.out; omega
    case rel =>
     have e1 : (x + 1).toNat = x.toNat + 1 := by omega
     have nb : ∀ g' cs' t', wx.heap[g']? = some (.cells cs' t' (0, 0)) → some g' ≠ some bm := by
      intro g' cs' t' hb' e_
      injection e_ with e_
      obtain ⟨es, cl_, hb⟩ := HM.out.block
      rw [← e_, hb'] at hb
      cases hb
     refine ⟨x + 1, (by (try rw [hw]); rfl), ⟨by have := HX.out; omega, by have := HX.out; omega, by have := HX.out; omega⟩, ⟨?_⟩, ⟨(HG9.out.block gd (blk_lt BKD.out) (nb _ _ _ BKD.out)).trans BKD.out⟩, ⟨(HG9.out.block gb (blk_lt BKB.out) (nb _ _ _ BKB.out)).trans BKB.out⟩, ⟨?_⟩, ⟨HB.out.grown HG9.out HB.out.size (fun k hk => by injection hk with hk; have := GM.out; omega)⟩⟩
     ·rw [e1]
      refine HM9.out _ ?_ ?_
      ·rw [impl_building.seen_succ a0 l0 x h0 c3, HS.out]
       rw [if_pos (by simp [impl_building.eqS])]
      ·intro y _ hy
       rw [impl_building.seen_succ a0 l0 x h0 c3 y]
       have hq : ¬ impl_building.eqS y (rd_T57 l0 x) = true := by intro hy2; refine hy ?_; unfold impl_building.eqS at hy2; obtain ⟨z0, z1⟩ := of_decide_eq_true hy2; cases y; cases hq : (rd_T57 l0 x); simp_all
       rw [if_neg hq]
       cases impl_building.seen a0 l0 x.toNat y <;> rfl
     ·exact Kd.R_grown1 HO.out rfl HG9.out (fun e_ => by obtain ⟨cells, hb'⟩ := Kd.R_typed HO.out bm e_.symm; exact nb _ _ _ hb' rfl)
  ·skip
   have c3b0 : decide (x < (l0.length : Int)) = false := decide_eq_false c3
   go_wp2
   go_ret
   have e_ : x.toNat = l0.length := by omega
   rw [e_] at HM
   exact ⟨gb, rfl, bm, A1, c1, BKB.out, HO.out, HM.out, GB.out, GM.out, HB.out⟩

/-! ### impl_And_43: function 43 (by hand) -/
def impl_And_43.f (l0 : List S57) : Option (List S57) := if l0.length ≤ 17592186044416 then some l0 else none
set_option maxHeartbeats 4000000 in
set_option maxRecDepth 100000 in
theorem impl_And_43.calls (A0 : Option Addr) (c0 : Nat) (l0 : List S57) (r : List S57) (w : World) (hr0 : Kd.C k57 w A0 l0.length l0) (hc0 : l0.length ≤ c0) (h : impl_And_43.f l0 = some r) :
  Calls Try.prog 43 #[.slice A0 l0.length c0] w fun e w' => ∃ v0_ : Value, e = .returned v0_ ∧ Kd.R k57 57 w' w.heap.size (fun _ => True) v0_ r ∧ Below w.heap.size w w' := by
 unfold impl_And_43.f at h
 by_cases hlim : l0.length ≤ 17592186044416
 ·rw [if_pos hlim] at h
  obtain rfl := Option.some.inj h
  clear h
  have HR0 := Yj hr0
  have HC0 := Yj hc0
  clear hr0 hc0
  by_cases hz : l0.length = 0
  ·obtain rfl := List.eq_nil_of_length_eq_zero hz
   go_enter Try.func43, Try.ntmps43
   go_wp2
   go_ret
   exact ⟨_, rfl, Kd.R_nil _ _ _ _ _, Below.refl _ _⟩
  ·have c1 : ((l0.length : Int) == 0) = false := beq_eq_false_iff_ne.mpr (by omega)
   have c2 : (l0.length == 0) = false := by simpa using hz
   have c3 : ¬ (l0 = []) := fun h_ => hz (by rw [h_]; rfl)
   have c4 : 0 < l0.length := by omega
   go_enter Try.func43, Try.ntmps43
   go_wp2_with (first | ((with_reducible refine gate_dst (N := 9) rfl ?_); refine Kd.R_make k57 _ 57 rfl (N := 9) rfl 26 _ _ rfl (l0.length : Int) rfl rfl Try.underlying26 (.agg #[(.int .i64 0), (.int .i64 0)]) 16 info57 rfl (by decide) (by omega) z57 (ok := fun _ => True) (okp := fun _ => True) (k57_mkM _ _ _ z57) (fun _ hk => hk) trivial (by omega) (by have := hlim; simp only [Int.toNat_natCast]; omega) (Below.refl _ _) (Nat.le_refl _) ?_; intro v1 w1 ho hb hg_ hnew_; clear hg_ hnew_; have HO := Yj ho; have HB := Yj hb; clear ho hb) | ((with_reducible refine gate_dst (N := 12) rfl ?_); refine Go.Proofs.YthphgkhmeobadaaX.R_copy k57 _ 57 rfl (N := 12) rfl (.tmp 10) (.tmp 11) 26 26 rfl Try.underlying26 (by kernel_rfl) (by decide) rfl rfl HO.out (Kd.C_below HR0.out HB.out) (by rw [List.length_replicate]; omega) c4 (fun _ _ x_ _ h_ => by rw [k57_open h_]; exact k57_mkM _ _ _ x_) HB.out ?_; intro w2 ho hb; have HO2 := Yj ho; have HB2 := Yj hb; clear ho hb))
   go_ret
   exact ⟨_, rfl, HO2.out, HB2.out⟩
 ·rw [if_neg hlim] at h
  exact absurd h (by simp)

end Go.Proofs.Ythphgkhmeobadaa.XFnAddAndOr
