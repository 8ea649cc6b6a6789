/- Printed by a program of this session out of the translation: the Go functions that a law uses as plain Lean functions, with the proofs of their calls, or the law's row.
Conditions: those that each theorem states. -/
import Derived.Test.YthphgkhmeobadaaXFnAddAndOrx0
import Derived.Test.YthphgkhmeobadaaXFnAddAndOrx4
namespace Go.Proofs.Ythphgkhmeobadaa.XFnAddAndOr
open Go.RowKit Go.Proofs.YthphgkhmeobadaaW.PrintWords Go.Proofs.YthphgkhmeobadaaW.PrintLast Go.Proofs.YthphgkhmeobadaaW.PrintMore
attribute [local go_sem] max2_int min2_int max_two min_two max_three min_three max_four min_four   -- for this text's walks alone
set_option linter.unusedVariables false
set_option linter.unusedSimpArgs false

/-! ### impl_builder_done: function 26 (by hand) -/
def impl_builder_done.T3 : Bool × List (List Nat × List Nat) := (true, [([], []), ([0], [0]), ([1], [1]), ([2], [2]), ([3], [3]), ([], []), ([5], [5]), ([6], [6]), ([7], [7]), ([8], [8]), ([9], [9]), ([4, 10], [4, 10]), ([], []), ([11, 10, 0, 1, 2, 3, 4, 5, 6, 7, 8, 9, 10, 11], [11]), ([12, 13, 0, 1, 2, 3, 4, 5, 6, 7, 8, 9, 10, 11, 12, 13], [12])])
def impl_builder_done.B3 : List Nat := [0, 1, 3, 7, 15, 0, 32, 96, 224, 480, 992, 2047, 0, 4095, 16383]
theorem impl_builder_done.tab3 : rtab .any (opsOf Try.f26 3) = impl_builder_done.T3 := by kernel_rfl
theorem impl_builder_done.bits3 : waitsOk impl_builder_done.T3.2 impl_builder_done.B3 = true := by kernel_rfl
set_option maxHeartbeats 40000000 in
set_option maxRecDepth 100000 in
theorem impl_builder_done.calls_t (a0 : Int) (l : List S57) (e0 : Int) (gb bm : Nat) (A1 : Option Addr) (c1 : Nat) (w0 w : World) (hb : Below w0.heap.size w0 w) (hbk : w.heap[gb]? = some (.cells #[.int .i64 a0, .slice A1 l.length c1, .map (some bm), .bool true] 67 (0, 0))) (ho : Kd.R k57 57 w w0.heap.size (fun _ => True) (.slice A1 l.length c1) l) (hgb : w0.heap.size ≤ gb) (hlen : l.length ≤ 601) :
  Calls Try.prog 26 #[.pointer (some ⟨gb, 0, none⟩), .int .i64 e0] w fun e w' => ∃ v1_ : Value, e = .returned (.tuple #[.agg #[.int .i64 0, v1_], .int .i64 (-1)]) ∧ Kd.R k57 57 w' w0.heap.size (fun _ => True) v1_ ([]) ∧ Below w0.heap.size w0 w' := by
 have hu := Try.underlying28
 have hub := Try.underlying67
 have HB := Yj hb
 have BKB := Yj hbk
 have HO := Yj ho
 have GB := Yj hgb
 clear hb hbk ho hgb
 have hcb3 := (Yd BKB.out 3).trans rfl
 go_enter Try.func26, Try.ntmps26
 go_wp2_with (first | ((with_reducible refine gate_dst (N := 4) rfl ?_); refine box_event ?hg (N := 4) ?hd (cs := #[.int .i64 0, .slice none 0 0]) (t := 28) ?hr ?_; (case hd => rfl); (case hg => rfl); (case hr => first | (go_simp; done) | (go_simp; rfl)); intro gr hgr w7 hbox hb; have NE3 := Yj (show gb ≠ gr by have := blk_lt BKB.out; omega); have LE := Nat.le_of_lt (Nat.lt_of_le_of_lt GB.out (blk_lt BKB.out)); have GR := Yj (show w0.heap.size ≤ gr by rw [hgr]; exact LE); have n3_ := Yj (below_then HB.out LE hb); have n4_ := Yj ((hb.block _ (blk_lt BKB.out)).trans BKB.out); have n6_ := Yj (Kd.R_below HO.out hb); clear HB BKB HO LE hcb3; have HB := n3_; have BKB := n4_; have HO := n6_; have BKR := Yj hbox; clear n3_ n4_ n6_ hb hgr; have hcb3 := (Yd BKB.out 3).trans rfl; have hcz0 := (Yd BKR.out 0).trans rfl; have hcz1 := (Yd BKR.out 1).trans rfl; have hfz0 := Ye BKR.out 0; have hfz1 := Ye BKR.out 1; clear hbox))
 refine bodyPost_ret (results_ct rfl _ _ gr 28 #[.int .i64 0, .slice none 0 0] (0, 0) _ rfl (by refine blk_put (cs := #[.int .i64 0, .slice none 0 0]) ?_ 1 _ rfl; refine blk_put (cs := #[.int .i64 0, .slice none 0 0]) ?_ 0 _ rfl; exact BKR.out) Try.underlying28 rfl (by kernel_rfl)) rfl ?_
 exact ⟨_, rfl, Kd.R_nil _ _ _ _ _, Yi (Yi HB.out GR.out) GR.out⟩
set_option maxHeartbeats 40000000 in
set_option maxRecDepth 100000 in
theorem impl_builder_done.calls_f (a0 : Int) (l : List S57) (e0 : Int) (gb bm : Nat) (A1 : Option Addr) (c1 : Nat) (w0 w : World) (hb : Below w0.heap.size w0 w) (hbk : w.heap[gb]? = some (.cells #[.int .i64 a0, .slice A1 l.length c1, .map (some bm), .bool false] 67 (0, 0))) (ho : Kd.R k57 57 w w0.heap.size (fun _ => True) (.slice A1 l.length c1) l) (hgb : w0.heap.size ≤ gb) (hlen : l.length ≤ 601) :
  Calls Try.prog 26 #[.pointer (some ⟨gb, 0, none⟩), .int .i64 e0] w fun e w' => ∃ v1_ : Value, e = .returned (.tuple #[.agg #[.int .i64 a0, v1_], .int .i64 e0]) ∧ Kd.R k57 57 w' w0.heap.size (fun _ => True) v1_ (l) ∧ Below w0.heap.size w0 w' := by
 have hu := Try.underlying28
 have hub := Try.underlying67
 have HB := Yj hb
 have BKB := Yj hbk
 have HO := Yj ho
 have GB := Yj hgb
 clear hb hbk ho hgb
 have hcl : impl_And_43.f l = some l := by unfold impl_And_43.f; rw [if_pos (by omega)]
 have HCL := Yj hcl
 clear hcl
 have hcb3 := (Yd BKB.out 3).trans rfl
 go_enter Try.func26, Try.ntmps26
 go_wp2_with (first | ((with_reducible refine gate_dst (N := 4) rfl ?_); refine box_event ?hg (N := 4) ?hd (cs := #[.int .i64 0, .slice none 0 0]) (t := 28) ?hr ?_; (case hd => rfl); (case hg => rfl); (case hr => first | (go_simp; done) | (go_simp; rfl)); intro gr hgr w7 hbox hb; have NE3 := Yj (show gb ≠ gr by have := blk_lt BKB.out; omega); have LE := Nat.le_of_lt (Nat.lt_of_le_of_lt GB.out (blk_lt BKB.out)); have GR := Yj (show w0.heap.size ≤ gr by rw [hgr]; exact LE); have n3_ := Yj (below_then HB.out LE hb); have n4_ := Yj ((hb.block _ (blk_lt BKB.out)).trans BKB.out); have n6_ := Yj (Kd.R_below HO.out hb); clear HB BKB HO LE hcb3; have HB := n3_; have BKB := n4_; have HO := n6_; have BKR := Yj hbox; clear n3_ n4_ n6_ hb hgr; have hcb3 := (Yd BKB.out 3).trans rfl; have hcz0 := (Yd BKR.out 0).trans rfl; have hcz1 := (Yd BKR.out 1).trans rfl; have hfz0 := Ye BKR.out 0; have hfz1 := Ye BKR.out 1; clear hbox))
 clear hcb3 hcz0 hcz1 hfz0 hfz1
 have BKB2 := Yj (show w7.drew.heap[gb]? = _ from BKB.out)
 have BKR2 := Yj (show w7.drew.heap[gr]? = _ from BKR.out)
 have HO2 := Yj (Kd.R_drew (w := w7) HO.out)
 have HB2 := Yj (show Below w0.heap.size w0 w7.drew from below_drew HB.out)
 clear BKB BKR HO HB
 have BKB := BKB2
 have BKR := BKR2
 have HO := HO2
 have HB := HB2
 clear BKB2 BKR2 HO2 HB2
 refine start_ (n := 15) (S := fun w' => w'.cell? ⟨gb, 0, none⟩ = some (.int .i64 a0) ∧ w'.cell? ⟨gb, 1, none⟩ = some (.slice A1 l.length c1)) (ds := [13]) #[false, false, false, false, false, false, false, false, false, false, false, false, false, false, false] (by kernel_rfl) rfl rfl ⟨(Yd BKB.out 0).trans rfl, (Yd BKB.out 1).trans rfl⟩ (fun hHeld => ?_)
 refine with_tabW impl_builder_done.tab3 impl_builder_done.bits3 (fun HT_ HW_ => ?_)
 generalize w7.drew = w8 at BKB BKR HO HB hHeld ⊢
 refine pure_ (i := 0) (N := some 11) (v := ?_) (a' := ?_) #[true, false, false, false, false, false, false, false, false, false, false, false, false, false, false] rfl rfl (any_of HT_.out (by kernel_rfl)) (fun _ _ _ h => h) (Or.inl ⟨by rfl, ?_⟩) ?_ ?_
 rotate_left
 ·intro w'
  go_simp
  with_reducible rfl
 rotate_left
 ·simp only [Act.put, List.setIfInBounds_toArray, List.set_cons_zero, List.set_cons_succ, i64_w, i32_w]
  rfl
 refine pure_ (i := 1) (N := some 12) (v := ?_) (a' := ?_) #[true, true, false, false, false, false, false, false, false, false, false, false, false, false, false] rfl rfl (any_of HT_.out (by kernel_rfl)) (fun _ _ _ h => h) (Or.inl ⟨by rfl, ?_⟩) ?_ ?_
 rotate_left
 ·intro w'
  go_simp
  with_reducible rfl
 rotate_left
 ·simp only [Act.put, List.setIfInBounds_toArray, List.set_cons_zero, List.set_cons_succ, i64_w, i32_w]
  rfl
 refine pure_ (i := 2) (N := some 13) (v := ?_) (a' := ?_) #[true, true, true, false, false, false, false, false, false, false, false, false, false, false, false] rfl rfl (any_of HT_.out (by kernel_rfl)) (fun _ _ _ h => h) (Or.inl ⟨by rfl, ?_⟩) ?_ ?_
 rotate_left
 ·intro w'
  go_simp
  with_reducible rfl
 rotate_left
 ·simp only [Act.put, List.setIfInBounds_toArray, List.set_cons_zero, List.set_cons_succ, i64_w, i32_w]
  rfl
 refine pure_ (i := 3) (N := some 14) (v := ?_) (a' := ?_) #[true, true, true, true, false, false, false, false, false, false, false, false, false, false, false] rfl rfl (any_of HT_.out (by kernel_rfl)) (fun _ _ _ h => h) (Or.inl ⟨by rfl, ?_⟩) ?_ ?_
 rotate_left
 ·intro w'
  go_simp
  with_reducible rfl
 rotate_left
 ·simp only [Act.put, List.setIfInBounds_toArray, List.set_cons_zero, List.set_cons_succ, i64_w, i32_w]
  rfl
 refine pure_ (i := 5) (N := some 16) (v := ?_) (a' := ?_) #[true, true, true, true, false, true, false, false, false, false, false, false, false, false, false] rfl rfl (any_of HT_.out (by kernel_rfl)) (fun _ _ _ h => h) (Or.inl ⟨by rfl, ?_⟩) ?_ ?_
 rotate_left
 ·intro w'
  go_simp
  with_reducible rfl
 rotate_left
 ·simp only [Act.put, List.setIfInBounds_toArray, List.set_cons_zero, List.set_cons_succ, i64_w, i32_w]
  rfl
 refine pure_ (i := 6) (N := some 17) (v := ?_) (a' := ?_) #[true, true, true, true, false, true, true, false, false, false, false, false, false, false, false] rfl rfl (any_of HT_.out (by kernel_rfl)) (fun _ _ _ h => h) (Or.inl ⟨by rfl, ?_⟩) ?_ ?_
 rotate_left
 ·intro w'
  go_simp
  with_reducible rfl
 rotate_left
 ·simp only [Act.put, List.setIfInBounds_toArray, List.set_cons_zero, List.set_cons_succ, i64_w, i32_w]
  rfl
 refine pure_ (i := 7) (N := some 18) (v := ?_) (a' := ?_) #[true, true, true, true, false, true, true, true, false, false, false, false, false, false, false] rfl rfl (any_of HT_.out (by kernel_rfl)) (fun _ _ _ h => h) (Or.inl ⟨by rfl, ?_⟩) ?_ ?_
 rotate_left
 ·intro w'
  go_simp
  with_reducible rfl
 rotate_left
 ·simp only [Act.put, List.setIfInBounds_toArray, List.set_cons_zero, List.set_cons_succ, i64_w, i32_w]
  rfl
 refine pure_ (i := 8) (N := some 19) (v := ?_) (a' := ?_) #[true, true, true, true, false, true, true, true, true, false, false, false, false, false, false] rfl rfl (any_of HT_.out (by kernel_rfl)) (fun _ _ _ h => h) (Or.inl ⟨by rfl, ?_⟩) ?_ ?_
 rotate_left
 ·intro w'
  go_simp
  with_reducible rfl
 rotate_left
 ·simp only [Act.put, List.setIfInBounds_toArray, List.set_cons_zero, List.set_cons_succ, i64_w, i32_w]
  rfl
 refine pure_ (i := 12) (N := some 23) (v := ?_) (a' := ?_) #[true, true, true, true, false, true, true, true, true, false, false, false, true, false, false] rfl rfl (any_of HT_.out (by kernel_rfl)) (fun _ _ _ h => h) (Or.inl ⟨by rfl, ?_⟩) ?_ ?_
 rotate_left
 ·intro w'
  go_simp
  with_reducible rfl
 rotate_left
 ·simp only [Act.put, List.setIfInBounds_toArray, List.set_cons_zero, List.set_cons_succ, i64_w, i32_w]
  rfl
 refine take_ (i := 4) (N := some 15) (v := ?_) (a' := ?_) #[true, true, true, true, true, true, true, true, true, false, false, false, true, false, false] rfl rfl (take_ofW HT_.out HW_.out (by kernel_rfl)) (fun _ _ _ h => h) (Or.inl ⟨by rfl, ?_⟩) hHeld ?_ ?_
 rotate_left
 ·rintro w' ⟨s0, s1⟩
  go_simp
  with_reducible rfl
 rotate_left
 ·simp only [Act.put, List.setIfInBounds_toArray, List.set_cons_zero, List.set_cons_succ, i64_w, i32_w]
  rfl
 refine take_ (i := 9) (N := some 20) (v := ?_) (a' := ?_) #[true, true, true, true, true, true, true, true, true, true, false, false, true, false, false] rfl rfl (take_ofW HT_.out HW_.out (by kernel_rfl)) (fun _ _ _ h => h) (Or.inl ⟨by rfl, ?_⟩) hHeld ?_ ?_
 rotate_left
 ·rintro w' ⟨s0, s1⟩
  go_simp
  with_reducible rfl
 rotate_left
 ·simp only [Act.put, List.setIfInBounds_toArray, List.set_cons_zero, List.set_cons_succ, i64_w, i32_w]
  rfl
 refine one_ (i := 10) (N := some 21) #[true, true, true, true, true, true, true, true, true, true, true, false, true, false, false] rfl rfl (one_of HT_.out (by kernel_rfl)) (by decide) (fun K hK => ?_)
 refine goes_ Try.func43 (by kernel_rfl) rfl #[.slice A1 l.length c1] (by rfl) rfl rfl (by (try simp only [List.map_toArray, List.map_cons, List.map_nil]); first | done | rfl) ?_
 obtain ⟨-, hcc_, hC_⟩ := Kd.R_reads' HO.out
 with_reducible refine (impl_And_43.calls A1 c1 l l _ hC_ hcc_ HCL.out).mono ?_
 rintro e w9 ⟨v9, rfl, ho, hb⟩
 clear hcc_ hC_
 obtain ⟨A2, c2, rfl⟩ := Kd.R_slice ho
 refine ⟨_, rfl, ?_⟩
 have LE := Nat.le_of_lt (Nat.lt_of_le_of_lt GB.out (blk_lt BKB.out))
 have n0_ := Yj ((hb.block _ (blk_lt BKB.out)).trans BKB.out)
 have n1_ := Yj ((hb.block _ (blk_lt BKR.out)).trans BKR.out)
 have n2_ := Yj (Kd.R_lower (Kd.R_newB ho BKR.out) LE)
 have n3_ := Yj (below_then HB.out LE hb)
 clear BKB BKR HO HB LE ho hb
 have BKB := n0_
 have BKR := n1_
 have HO := n2_
 have HB := n3_
 clear n0_ n1_ n2_ n3_
 refine hK.out _ _ ⟨(Yd BKB.out 0).trans rfl, (Yd BKB.out 1).trans rfl⟩ (fun hHeld => ?_)
 clear hK K
 refine norm_ (a' := ?_) ?_ ?_
 rotate_left
 ·show Act.put _ (some 21) _ = _
  simp only [Act.put, List.setIfInBounds_toArray, List.set_cons_zero, List.set_cons_succ, i64_w, i32_w]
  rfl
 refine pure_ (i := 11) (N := some 22) (v := ?_) (a' := ?_) #[true, true, true, true, true, true, true, true, true, true, true, true, true, false, false] rfl rfl (any_of HT_.out (by kernel_rfl)) (fun _ _ _ h => h) (Or.inl ⟨by rfl, ?_⟩) ?_ ?_
 rotate_left
 ·intro w'
  go_simp
  with_reducible rfl
 rotate_left
 ·simp only [Act.put, List.setIfInBounds_toArray, List.set_cons_zero, List.set_cons_succ, i64_w, i32_w]
  rfl
 refine last_ (i := 13) (N := none) #[true, true, true, true, true, true, true, true, true, true, true, true, true, true, false] rfl rfl (one_of HT_.out (by kernel_rfl)) (by decide) (fun K hK => ?_)
 have hs30 := (Yd BKR.out 0).trans rfl
 have hs31 := (Yd BKR.out 1).trans rfl
 have hfs30 := Ye BKR.out 0
 have hfs31 := Ye BKR.out 1
 refine skip_ (w1 := ?_) (by rfl) rfl ?_ ?_
 rotate_left
 ·go_simp
  rfl
 refine hK.out _ _ ?_
 clear hK K
 refine pure_ (i := 14) (N := some 5) (v := ?_) (a' := ?_) #[true, true, true, true, true, true, true, true, true, true, true, true, true, true, true] rfl rfl (any_of HT_.out (by kernel_rfl)) (fun _ _ _ h => h) (Or.inl ⟨by rfl, ?_⟩) ?_ ?_
 rotate_left
 ·intro w'
  go_simp
  with_reducible rfl
 rotate_left
 ·simp only [Act.put, List.setIfInBounds_toArray, List.set_cons_zero, List.set_cons_succ, i64_w, i32_w]
  rfl
 refine done_ (done_of HT_.out (by kernel_rfl)) ?_
 (try go_wp2)
 refine bodyPost_ret (results_ct rfl _ _ gr 28 #[.int .i64 a0, .slice A2 l.length c2] (0, 0) _ rfl (by refine blk_put (cs := #[.int .i64 a0, .slice none 0 0]) ?_ 1 _ rfl; refine blk_put (cs := #[.int .i64 0, .slice none 0 0]) ?_ 0 _ rfl; exact BKR.out) Try.underlying28 rfl (by kernel_rfl)) rfl ?_
 exact ⟨_, rfl, Kd.R_mono (Kd.R_far (p := ⟨gr, 1, none⟩) (Kd.R_far (p := ⟨gr, 0, none⟩) HO.out (fun _ hk => hk.2) _) (fun _ hk => hk.2) _) (fun _ _ => trivial), Yi (Yi HB.out GR.out) GR.out⟩

end Go.Proofs.Ythphgkhmeobadaa.XFnAddAndOr
