/- Printed by a program of this session out of the translation: the Go functions that a law uses as plain Lean functions, with the proofs of their calls, or the law's row.
Conditions: those that each theorem states. -/
import Derived.Test.YthphgkhmeobadaaXFnAddAndOrx0
import Derived.Test.YthphgkhmeobadaaXFnAddAndOrx4
namespace Go.Proofs.Ythphgkhmeobadaa.XFnAddAndOr
open Go.RowKit Go.Proofs.YthphgkhmeobadaaW.PrintWords Go.Proofs.YthphgkhmeobadaaW.PrintLast Go.Proofs.YthphgkhmeobadaaW.PrintMore
attribute [local go_sem] max2_int min2_int max_two min_two max_three min_three max_four min_four   -- for this text's walks alone
set_option linter.unusedVariables false
set_option linter.unusedSimpArgs false

/-! ### impl_builder_and: function 27 (by hand) -/
def impl_builder_and.T7 : Bool × List (List Nat × List Nat) := (true, [([], []), ([0], [0]), ([1], [1]), ([2], [2]), ([], []), ([3, 4], [3, 4]), ([5], [5]), ([6], [6]), ([6], [6]), ([7, 0, 1, 2, 3, 4, 5, 6, 7], [7]), ([8, 9, 0, 1, 2, 3, 4, 5, 6, 7, 8, 9], [8])])
def impl_builder_and.B7 : List Nat := [0, 1, 3, 7, 0, 31, 63, 127, 127, 255, 1023]
theorem impl_builder_and.tab7 : rtab .any (opsOf Try.f27 7) = impl_builder_and.T7 := by kernel_rfl
theorem impl_builder_and.bits7 : waitsOk impl_builder_and.T7.2 impl_builder_and.B7 = true := by kernel_rfl
def impl_builder_and.T13 : Bool × List (List Nat × List Nat) := (true, [([], []), ([], []), ([1], [1]), ([2], [2]), ([3], [3]), ([4], [4]), ([], []), ([6], [6]), ([5, 7], [5, 7]), ([0, 0, 1, 2, 3, 4, 5, 6, 7, 8], [0]), ([9, 0, 1, 2, 3, 4, 5, 6, 7, 8], [9]), ([10, 0, 1, 2, 3, 4, 5, 6, 7, 8], [10]), ([11, 8, 8, 0, 1, 2, 3, 4, 5, 6, 7, 8], [8, 11])])
def impl_builder_and.B13 : List Nat := [0, 0, 2, 6, 14, 30, 0, 64, 254, 511, 1023, 2047, 4095]
theorem impl_builder_and.tab13 : rtab .any (opsOf Try.f27 13) = impl_builder_and.T13 := by kernel_rfl
theorem impl_builder_and.bits13 : waitsOk impl_builder_and.T13.2 impl_builder_and.B13 = true := by kernel_rfl
def impl_builder_and.T14 : Bool × List (List Nat × List Nat) := (true, [([], []), ([0], [0]), ([1], [1]), ([2], [2]), ([3], [3]), ([], []), ([5], [5]), ([6], [6]), ([7], [7]), ([8], [8]), ([9], [9]), ([4, 10], [4, 10]), ([11], [11]), ([12, 0, 1, 2, 3, 4, 5, 6, 7, 8, 9, 10, 11, 12], [12])])
def impl_builder_and.B14 : List Nat := [0, 1, 3, 7, 15, 0, 32, 96, 224, 480, 992, 2047, 4095, 8191]
theorem impl_builder_and.tab14 : rtab .any (opsOf Try.f27 14) = impl_builder_and.T14 := by kernel_rfl
theorem impl_builder_and.bits14 : waitsOk impl_builder_and.T14.2 impl_builder_and.B14 = true := by kernel_rfl
def impl_builder_and.g (n : Int) (l : List S57) (x y : Int) : Int × List S57 × Bool := if x = 0 then (0, l, false) else if Go.bits .xor .i64 x 1 = y then (0, l, false) else if x = 1 then (y, l, false) else if x = y then (y, l, false) else match impl_building.seen n l l.length ⟨x, y⟩ with
 | some e => (e, l, false)
 | none => if (l.length : Int) ≥ 600 then (0, l, true) else (wrap64 (2 * (wrap64 (n + ((l.length : Int) + 1)))), l ++ [⟨x, y⟩], false)
/-- What And of two edges is told to be, the gates behind it, and whether they are too many. -/
def impl_builder_and.f (n : Int) (l : List S57) (x y : Int) : Int × List S57 × Bool := impl_builder_and.g n l (if y < x then y else x) (if x < y then y else x)
theorem impl_builder_and.f_len (n : Int) (l : List S57) (x y : Int) (h : l.length ≤ 600) : (impl_builder_and.f n l x y).2.1.length ≤ 601 := by
 have key : ∀ X Y, (impl_builder_and.g n l X Y).2.1.length ≤ 601 := by
  intro X Y
  unfold impl_builder_and.g
  (repeat' split) <;> simp only [List.length_append, List.length_singleton] <;> omega
 exact key _ _
set_option maxHeartbeats 40000000 in
set_option maxRecDepth 100000 in
theorem impl_builder_and.calls_a (a0 : Int) (l : List S57) (x y : Int) (gb bm : Nat) (A1 : Option Addr) (c1 : Nat) (w0 w : World) (hb : Below w0.heap.size w0 w) (hbk : w.heap[gb]? = some (.cells #[.int .i64 a0, .slice A1 l.length c1, .map (some bm), .bool false] 67 (0, 0))) (ho : Kd.R k57 57 w w0.heap.size (fun _ => True) (.slice A1 l.length c1) l) (hm : Go.Proofs.YthphgkhmeobadaaX.MapF impl_building.key impl_building.elem w bm l.length (impl_building.seen a0 l l.length)) (hgb : w0.heap.size ≤ gb) (hbm : w0.heap.size ≤ bm) (hlen : l.length ≤ 600) (X Y : Int) (hX : (if y < x then y else x) = X) (hY : (if x < y then y else x) = Y) (h0 : (X == 0) = true) :
  Calls Try.prog 27 #[.pointer (some ⟨gb, 0, none⟩), .int .i64 x, .int .i64 y] w fun e w' => e = .returned (.int .i64 (0)) ∧ ∃ (A2 : Option Addr) (c2 : Nat), w'.heap[gb]? = some (.cells #[.int .i64 a0, .slice A2 (l).length c2, .map (some bm), .bool (false)] 67 (0, 0)) ∧ Kd.R k57 57 w' w0.heap.size (fun _ => True) (.slice A2 (l).length c2) (l) ∧ Below w0.heap.size w0 w' := by
 have HB := Yj hb
 have BKB := Yj hbk
 have HO := Yj ho
 have HM := Yj hm
 have GB := Yj hgb
 have GM := Yj hbm
 have HLN := Yj hlen
 clear hb hbk ho hm hgb hbm
 go_enter Try.func27, Try.ntmps27
 go_wp2
 go_ret
 exact ⟨rfl, A1, c1, BKB.out, HO.out, HB.out⟩
set_option maxHeartbeats 40000000 in
set_option maxRecDepth 100000 in
theorem impl_builder_and.calls_b (a0 : Int) (l : List S57) (x y : Int) (gb bm : Nat) (A1 : Option Addr) (c1 : Nat) (w0 w : World) (hb : Below w0.heap.size w0 w) (hbk : w.heap[gb]? = some (.cells #[.int .i64 a0, .slice A1 l.length c1, .map (some bm), .bool false] 67 (0, 0))) (ho : Kd.R k57 57 w w0.heap.size (fun _ => True) (.slice A1 l.length c1) l) (hm : Go.Proofs.YthphgkhmeobadaaX.MapF impl_building.key impl_building.elem w bm l.length (impl_building.seen a0 l l.length)) (hgb : w0.heap.size ≤ gb) (hbm : w0.heap.size ≤ bm) (hlen : l.length ≤ 600) (X Y : Int) (hX : (if y < x then y else x) = X) (hY : (if x < y then y else x) = Y) (h0 : (X == 0) = false) (hx : (Go.bits .xor .i64 X 1 == Y) = true) :
  Calls Try.prog 27 #[.pointer (some ⟨gb, 0, none⟩), .int .i64 x, .int .i64 y] w fun e w' => e = .returned (.int .i64 (0)) ∧ ∃ (A2 : Option Addr) (c2 : Nat), w'.heap[gb]? = some (.cells #[.int .i64 a0, .slice A2 (l).length c2, .map (some bm), .bool (false)] 67 (0, 0)) ∧ Kd.R k57 57 w' w0.heap.size (fun _ => True) (.slice A2 (l).length c2) (l) ∧ Below w0.heap.size w0 w' := by
 have HB := Yj hb
 have BKB := Yj hbk
 have HO := Yj ho
 have HM := Yj hm
 have GB := Yj hgb
 have GM := Yj hbm
 have HLN := Yj hlen
 clear hb hbk ho hm hgb hbm
 go_enter Try.func27, Try.ntmps27
 go_wp2
 go_ret
 exact ⟨rfl, A1, c1, BKB.out, HO.out, HB.out⟩
set_option maxHeartbeats 40000000 in
set_option maxRecDepth 100000 in
theorem impl_builder_and.calls_c (a0 : Int) (l : List S57) (x y : Int) (gb bm : Nat) (A1 : Option Addr) (c1 : Nat) (w0 w : World) (hb : Below w0.heap.size w0 w) (hbk : w.heap[gb]? = some (.cells #[.int .i64 a0, .slice A1 l.length c1, .map (some bm), .bool false] 67 (0, 0))) (ho : Kd.R k57 57 w w0.heap.size (fun _ => True) (.slice A1 l.length c1) l) (hm : Go.Proofs.YthphgkhmeobadaaX.MapF impl_building.key impl_building.elem w bm l.length (impl_building.seen a0 l l.length)) (hgb : w0.heap.size ≤ gb) (hbm : w0.heap.size ≤ bm) (hlen : l.length ≤ 600) (X Y : Int) (hX : (if y < x then y else x) = X) (hY : (if x < y then y else x) = Y) (h0 : (X == 0) = false) (hx : (Go.bits .xor .i64 X 1 == Y) = false) (h1 : (X == 1) = true) :
  Calls Try.prog 27 #[.pointer (some ⟨gb, 0, none⟩), .int .i64 x, .int .i64 y] w fun e w' => e = .returned (.int .i64 (Y)) ∧ ∃ (A2 : Option Addr) (c2 : Nat), w'.heap[gb]? = some (.cells #[.int .i64 a0, .slice A2 (l).length c2, .map (some bm), .bool (false)] 67 (0, 0)) ∧ Kd.R k57 57 w' w0.heap.size (fun _ => True) (.slice A2 (l).length c2) (l) ∧ Below w0.heap.size w0 w' := by
 have HB := Yj hb
 have BKB := Yj hbk
 have HO := Yj ho
 have HM := Yj hm
 have GB := Yj hgb
 have GM := Yj hbm
 have HLN := Yj hlen
 clear hb hbk ho hm hgb hbm
 go_enter Try.func27, Try.ntmps27
 go_wp2
 go_ret
 exact ⟨rfl, A1, c1, BKB.out, HO.out, HB.out⟩
set_option maxHeartbeats 40000000 in
set_option maxRecDepth 100000 in
theorem impl_builder_and.calls_d (a0 : Int) (l : List S57) (x y : Int) (gb bm : Nat) (A1 : Option Addr) (c1 : Nat) (w0 w : World) (hb : Below w0.heap.size w0 w) (hbk : w.heap[gb]? = some (.cells #[.int .i64 a0, .slice A1 l.length c1, .map (some bm), .bool false] 67 (0, 0))) (ho : Kd.R k57 57 w w0.heap.size (fun _ => True) (.slice A1 l.length c1) l) (hm : Go.Proofs.YthphgkhmeobadaaX.MapF impl_building.key impl_building.elem w bm l.length (impl_building.seen a0 l l.length)) (hgb : w0.heap.size ≤ gb) (hbm : w0.heap.size ≤ bm) (hlen : l.length ≤ 600) (X Y : Int) (hX : (if y < x then y else x) = X) (hY : (if x < y then y else x) = Y) (h0 : (X == 0) = false) (hx : (Go.bits .xor .i64 X 1 == Y) = false) (h1 : (X == 1) = false) (hy : (X == Y) = true) :
  Calls Try.prog 27 #[.pointer (some ⟨gb, 0, none⟩), .int .i64 x, .int .i64 y] w fun e w' => e = .returned (.int .i64 (Y)) ∧ ∃ (A2 : Option Addr) (c2 : Nat), w'.heap[gb]? = some (.cells #[.int .i64 a0, .slice A2 (l).length c2, .map (some bm), .bool (false)] 67 (0, 0)) ∧ Kd.R k57 57 w' w0.heap.size (fun _ => True) (.slice A2 (l).length c2) (l) ∧ Below w0.heap.size w0 w' := by
 have HB := Yj hb
 have BKB := Yj hbk
 have HO := Yj ho
 have HM := Yj hm
 have GB := Yj hgb
 have GM := Yj hbm
 have HLN := Yj hlen
 clear hb hbk ho hm hgb hbm
 go_enter Try.func27, Try.ntmps27
 go_wp2
 go_ret
 exact ⟨rfl, A1, c1, BKB.out, HO.out, HB.out⟩
set_option maxHeartbeats 40000000 in
set_option maxRecDepth 100000 in
theorem impl_builder_and.calls_e (a0 : Int) (l : List S57) (x y : Int) (gb bm : Nat) (A1 : Option Addr) (c1 : Nat) (w0 w : World) (hb : Below w0.heap.size w0 w) (hbk : w.heap[gb]? = some (.cells #[.int .i64 a0, .slice A1 l.length c1, .map (some bm), .bool false] 67 (0, 0))) (ho : Kd.R k57 57 w w0.heap.size (fun _ => True) (.slice A1 l.length c1) l) (hm : Go.Proofs.YthphgkhmeobadaaX.MapF impl_building.key impl_building.elem w bm l.length (impl_building.seen a0 l l.length)) (hgb : w0.heap.size ≤ gb) (hbm : w0.heap.size ≤ bm) (hlen : l.length ≤ 600) (X Y : Int) (hX : (if y < x then y else x) = X) (hY : (if x < y then y else x) = Y) (h0 : (X == 0) = false) (hx : (Go.bits .xor .i64 X 1 == Y) = false) (h1 : (X == 1) = false) (hy : (X == Y) = false) (hwf : impl_building.key.good (⟨X, Y⟩ : S57)) (e0 : Int) (hs : impl_building.seen a0 l l.length (⟨X, Y⟩ : S57) = some e0) :
  Calls Try.prog 27 #[.pointer (some ⟨gb, 0, none⟩), .int .i64 x, .int .i64 y] w fun e w' => e = .returned (.int .i64 (e0)) ∧ ∃ (A2 : Option Addr) (c2 : Nat), w'.heap[gb]? = some (.cells #[.int .i64 a0, .slice A2 (l).length c2, .map (some bm), .bool (false)] 67 (0, 0)) ∧ Kd.R k57 57 w' w0.heap.size (fun _ => True) (.slice A2 (l).length c2) (l) ∧ Below w0.heap.size w0 w' := by
 have HB := Yj hb
 have BKB := Yj hbk
 have HO := Yj ho
 have HM := Yj hm
 have GB := Yj hgb
 have GM := Yj hbm
 have HLN := Yj hlen
 clear hb hbk ho hm hgb hbm
 go_enter Try.func27, Try.ntmps27
 have HGD := Yj hwf
 clear hwf
 go_wp2_with (first | ((with_reducible refine gate_dst (N := 7) rfl ?_); refine box_event ?hg (N := 7) ?hd (cs := #[.int .i64 0, .int .i64 0]) (t := 57) ?hr ?_; (case hd => rfl); (case hg => rfl); (case hr => first | (go_simp; done) | (go_simp; rfl)); intro gf hgf w7 hbox hb; have NE1 := Yj (show bm ≠ gf by have := HM.out.lt; omega); have NE3 := Yj (show gb ≠ gf by have := blk_lt BKB.out; omega); have GE := Yj (show w0.heap.size ≤ gf by rw [hgf]; exact Nat.le_trans (Nat.le_of_lt (Nat.lt_of_le_of_lt GB.out (blk_lt BKB.out))) (Nat.le_refl _)); have n2_ := Yj (HM.out.below hb); have n3_ := Yj (below_then HB.out (Nat.le_of_lt (Nat.lt_of_le_of_lt GB.out (blk_lt BKB.out))) hb); have n4_ := Yj ((hb.block _ (blk_lt BKB.out)).trans BKB.out); have n5_ := Yj (Kd.R_elderB HO.out gf (by rw [hgf]; exact Nat.le_refl _)); have n6_ := Yj (Kd.R_below n5_.out hb); clear HM HB BKB HO n5_; have HM := n2_; have HB := n3_; have BKB := n4_; have HO := n6_; have BKF := Yj hbox; clear n2_ n3_ n4_ n6_ hb hgf; have hcz0 : w7.cell? ⟨gf, 0, none⟩ = some (.int .i64 0) := (Yd hbox 0).trans rfl; have hcz1 : w7.cell? ⟨gf, 1, none⟩ = some (.int .i64 0) := (Yd hbox 1).trans rfl; have hfz0 := Ye hbox 0; have hfz1 := Ye hbox 1; clear hbox))
 generalize hW : (w7.setCell ⟨gf, 0, none⟩ (.int .i64 X)).setCell ⟨gf, 1, none⟩ (.int .i64 Y) = wz
 have BKF2 : wz.drew.heap[gf]? = some (.cells #[.int .i64 X, .int .i64 Y] 57 (0, 0)) := by
  show wz.heap[gf]? = _
  rw [← hW]
  refine blk_put (cs := #[.int .i64 X, .int .i64 0]) ?_ 1 _ rfl
  refine blk_put (cs := #[.int .i64 0, .int .i64 0]) ?_ 0 _ rfl
  exact BKF.out
 have BKB2 : wz.drew.heap[gb]? = some (.cells #[.int .i64 a0, .slice A1 l.length c1, .map (some bm), .bool false] 67 (0, 0)) := by
  show wz.heap[gb]? = _
  rw [← hW]
  exact blk_far (blk_far BKB.out NE3.out _) NE3.out _
 have HM2 := HM.out.move (w' := wz.drew) (by
  show wz.heap[bm]? = _
  rw [← hW, Below.heap_setCell _ _ _ _ NE1.out, Below.heap_setCell _ _ _ _ NE1.out])
 have HO2 : Kd.R k57 57 wz.drew w0.heap.size (fun _ => True) (.slice A1 l.length c1) l := by
  refine Kd.R_drew ?_
  rw [← hW]
  exact Kd.R_mono (Kd.R_far (p := ⟨gf, 1, none⟩) (Kd.R_far (p := ⟨gf, 0, none⟩) HO.out (fun _ hk => hk.2) _) (fun _ hk => hk.2) _) (fun _ _ => trivial)
 have HB2 : Below w0.heap.size w0 wz.drew := below_drew (by rw [← hW]; exact Yi (Yi HB.out GE.out) GE.out)
 clear hW hcz0 hcz1 hfz0 hfz1 BKF HM HB BKB HO
 have BKF := Yj BKF2
 have BKB := Yj BKB2
 have HM := Yj HM2
 have HO := Yj HO2
 have HB := Yj HB2
 clear BKF2 BKB2 HM2 HO2 HB2
 have HS := Yj hs
 clear hs
 refine start_ (n := 11) (S := fun w' => w'.cell? ⟨gb, 2, none⟩ = some (.map (some bm)) ∧ w'.cell? ⟨gf, 0, none⟩ = some (.int .i64 X) ∧ w'.cell? ⟨gf, 1, none⟩ = some (.int .i64 Y) ∧ (Instr.lookup 65 (.map (some bm)) (.agg #[.int .i64 X, .int .i64 Y]) true).run Try.prog w' = .ok (.tuple #[.int .i64 e0, .bool true]) w') (ds := []) #[false, false, false, false, false, false, false, false, false, false, false] (by kernel_rfl) rfl rfl ⟨(Yd BKB.out 2).trans rfl, (Yd BKF.out 0).trans rfl, (Yd BKF.out 1).trans rfl, ((HM.out.look_ok Try.underlying65 HGD.out).trans (congrArg (fun q_ : Option Int => Result.ok (Value.tuple #[Value.int .i64 (q_.getD 0), .bool q_.isSome]) _) HS.out))⟩ (fun hHeld => ?_)
 refine with_tabW impl_builder_and.tab7 impl_builder_and.bits7 (fun HT_ HW_ => ?_)
 generalize wz.drew = wy at BKF BKB HM HO HB hHeld ⊢
 refine pure_ (i := 0) (N := some 39) (v := ?_) (a' := ?_) #[true, false, false, false, false, false, false, false, false, false, false] rfl rfl (any_of HT_.out (by kernel_rfl)) (fun _ _ _ h => h) (Or.inl ⟨by rfl, ?_⟩) ?_ ?_
 rotate_left
 ·intro w'
  go_simp
  with_reducible rfl
 rotate_left
 ·simp only [Act.put, List.setIfInBounds_toArray, List.set_cons_zero, List.set_cons_succ, i64_w, i32_w]
  rfl
 refine pure_ (i := 1) (N := some 40) (v := ?_) (a' := ?_) #[true, true, false, false, false, false, false, false, false, false, false] rfl rfl (any_of HT_.out (by kernel_rfl)) (fun _ _ _ h => h) (Or.inl ⟨by rfl, ?_⟩) ?_ ?_
 rotate_left
 ·intro w'
  go_simp
  with_reducible rfl
 rotate_left
 ·simp only [Act.put, List.setIfInBounds_toArray, List.set_cons_zero, List.set_cons_succ, i64_w, i32_w]
  rfl
 refine pure_ (i := 2) (N := some 41) (v := ?_) (a' := ?_) #[true, true, true, false, false, false, false, false, false, false, false] rfl rfl (any_of HT_.out (by kernel_rfl)) (fun _ _ _ h => h) (Or.inl ⟨by rfl, ?_⟩) ?_ ?_
 rotate_left
 ·intro w'
  go_simp
  with_reducible rfl
 rotate_left
 ·simp only [Act.put, List.setIfInBounds_toArray, List.set_cons_zero, List.set_cons_succ, i64_w, i32_w]
  rfl
 refine take_ (i := 3) (N := some 42) (v := ?_) (a' := ?_) #[true, true, true, true, false, false, false, false, false, false, false] rfl rfl (take_ofW HT_.out HW_.out (by kernel_rfl)) (fun _ _ _ h => h) (Or.inl ⟨by rfl, ?_⟩) hHeld ?_ ?_
 rotate_left
 ·rintro w' ⟨s0, s1, s2, s3⟩
  go_simp
  with_reducible rfl
 rotate_left
 ·simp only [Act.put, List.setIfInBounds_toArray, List.set_cons_zero, List.set_cons_succ, i64_w, i32_w]
  rfl
 refine take_ (i := 4) (N := some 43) (v := ?_) (a' := ?_) #[true, true, true, true, true, false, false, false, false, false, false] rfl rfl (take_ofW HT_.out HW_.out (by kernel_rfl)) (fun _ _ _ h => h) (Or.inl ⟨by rfl, ?_⟩) hHeld ?_ ?_
 rotate_left
 ·rintro w' ⟨s0, s1, s2, s3⟩
  go_simp
  with_reducible rfl
 rotate_left
 ·simp only [Act.put, List.setIfInBounds_toArray, List.set_cons_zero, List.set_cons_succ, i64_w, i32_w]
  rfl
 refine take_ (i := 5) (N := some 44) (v := ?_) (a' := ?_) #[true, true, true, true, true, true, false, false, false, false, false] rfl rfl (take_ofW HT_.out HW_.out (by kernel_rfl)) (fun _ _ _ h => h) (Or.inl ⟨by rfl, ?_⟩) hHeld ?_ ?_
 rotate_left
 ·rintro w' ⟨s0, s1, s2, s3⟩
  go_simp
  with_reducible rfl
 rotate_left
 ·simp only [Act.put, List.setIfInBounds_toArray, List.set_cons_zero, List.set_cons_succ, i64_w, i32_w]
  rfl
 refine pure_ (i := 6) (N := some 38) (v := ?_) (a' := ?_) #[true, true, true, true, true, true, true, false, false, false, false] rfl rfl (any_of HT_.out (by kernel_rfl)) (fun _ _ _ h => h) (Or.inl ⟨by rfl, ?_⟩) ?_ ?_
 rotate_left
 ·intro w'
  go_simp
  with_reducible rfl
 rotate_left
 ·simp only [Act.put, List.setIfInBounds_toArray, List.set_cons_zero, List.set_cons_succ, i64_w, i32_w]
  rfl
 refine pure_ (i := 7) (N := some 45) (v := ?_) (a' := ?_) #[true, true, true, true, true, true, true, true, false, false, false] rfl rfl (any_of HT_.out (by kernel_rfl)) (fun _ _ _ h => h) (Or.inl ⟨by rfl, ?_⟩) ?_ ?_
 rotate_left
 ·intro w'
  go_simp
  with_reducible rfl
 rotate_left
 ·simp only [Act.put, List.setIfInBounds_toArray, List.set_cons_zero, List.set_cons_succ, i64_w, i32_w]
  rfl
 refine pure_ (i := 8) (N := some 46) (v := ?_) (a' := ?_) #[true, true, true, true, true, true, true, true, true, false, false] rfl rfl (any_of HT_.out (by kernel_rfl)) (fun _ _ _ h => h) (Or.inl ⟨by rfl, ?_⟩) ?_ ?_
 rotate_left
 ·intro w'
  go_simp
  with_reducible rfl
 rotate_left
 ·simp only [Act.put, List.setIfInBounds_toArray, List.set_cons_zero, List.set_cons_succ, i64_w, i32_w]
  rfl
 refine pure_ (i := 9) (N := some 8) (v := ?_) (a' := ?_) #[true, true, true, true, true, true, true, true, true, true, false] rfl rfl (any_of HT_.out (by kernel_rfl)) (fun _ _ _ h => h) (Or.inl ⟨by rfl, ?_⟩) ?_ ?_
 rotate_left
 ·intro w'
  go_simp
  with_reducible rfl
 rotate_left
 ·simp only [Act.put, List.setIfInBounds_toArray, List.set_cons_zero, List.set_cons_succ, i64_w, i32_w]
  rfl
 refine pure_ (i := 10) (N := some 9) (v := ?_) (a' := ?_) #[true, true, true, true, true, true, true, true, true, true, true] rfl rfl (any_of HT_.out (by kernel_rfl)) (fun _ _ _ h => h) (Or.inl ⟨by rfl, ?_⟩) ?_ ?_
 rotate_left
 ·intro w'
  go_simp
  with_reducible rfl
 rotate_left
 ·simp only [Act.put, List.setIfInBounds_toArray, List.set_cons_zero, List.set_cons_succ, i64_w, i32_w]
  rfl
 refine done_ (done_of HT_.out (by kernel_rfl)) ?_
 go_wp2
 go_ret
 exact ⟨rfl, A1, c1, BKB.out, HO.out, HB.out⟩
set_option maxHeartbeats 40000000 in
set_option maxRecDepth 100000 in
theorem impl_builder_and.calls_f (a0 : Int) (l : List S57) (x y : Int) (gb bm : Nat) (A1 : Option Addr) (c1 : Nat) (w0 w : World) (hb : Below w0.heap.size w0 w) (hbk : w.heap[gb]? = some (.cells #[.int .i64 a0, .slice A1 l.length c1, .map (some bm), .bool false] 67 (0, 0))) (ho : Kd.R k57 57 w w0.heap.size (fun _ => True) (.slice A1 l.length c1) l) (hm : Go.Proofs.YthphgkhmeobadaaX.MapF impl_building.key impl_building.elem w bm l.length (impl_building.seen a0 l l.length)) (hgb : w0.heap.size ≤ gb) (hbm : w0.heap.size ≤ bm) (hlen : l.length ≤ 600) (X Y : Int) (hX : (if y < x then y else x) = X) (hY : (if x < y then y else x) = Y) (h0 : (X == 0) = false) (hx : (Go.bits .xor .i64 X 1 == Y) = false) (h1 : (X == 1) = false) (hy : (X == Y) = false) (hwf : impl_building.key.good (⟨X, Y⟩ : S57)) (hs : impl_building.seen a0 l l.length (⟨X, Y⟩ : S57) = none) (hf : (l.length : Int) ≥ 600) :
  Calls Try.prog 27 #[.pointer (some ⟨gb, 0, none⟩), .int .i64 x, .int .i64 y] w fun e w' => e = .returned (.int .i64 (0)) ∧ ∃ (A2 : Option Addr) (c2 : Nat), w'.heap[gb]? = some (.cells #[.int .i64 a0, .slice A2 (l).length c2, .map (some bm), .bool (true)] 67 (0, 0)) ∧ Kd.R k57 57 w' w0.heap.size (fun _ => True) (.slice A2 (l).length c2) (l) ∧ Below w0.heap.size w0 w' := by
 have HB := Yj hb
 have BKB := Yj hbk
 have HO := Yj ho
 have HM := Yj hm
 have GB := Yj hgb
 have GM := Yj hbm
 have HLN := Yj hlen
 clear hb hbk ho hm hgb hbm
 go_enter Try.func27, Try.ntmps27
 have hfb_ : decide (600 ≤ (l.length : Int)) = true := decide_eq_true hf
 have hfc_ : decide ((l.length : Int) ≥ 600) = true := decide_eq_true hf
 have HGD := Yj hwf
 clear hwf
 go_wp2_with (first | ((with_reducible refine gate_dst (N := 7) rfl ?_); refine box_event ?hg (N := 7) ?hd (cs := #[.int .i64 0, .int .i64 0]) (t := 57) ?hr ?_; (case hd => rfl); (case hg => rfl); (case hr => first | (go_simp; done) | (go_simp; rfl)); intro gf hgf w7 hbox hb; have NE1 := Yj (show bm ≠ gf by have := HM.out.lt; omega); have NE3 := Yj (show gb ≠ gf by have := blk_lt BKB.out; omega); have GE := Yj (show w0.heap.size ≤ gf by rw [hgf]; exact Nat.le_trans (Nat.le_of_lt (Nat.lt_of_le_of_lt GB.out (blk_lt BKB.out))) (Nat.le_refl _)); have n2_ := Yj (HM.out.below hb); have n3_ := Yj (below_then HB.out (Nat.le_of_lt (Nat.lt_of_le_of_lt GB.out (blk_lt BKB.out))) hb); have n4_ := Yj ((hb.block _ (blk_lt BKB.out)).trans BKB.out); have n5_ := Yj (Kd.R_elderB HO.out gf (by rw [hgf]; exact Nat.le_refl _)); have n6_ := Yj (Kd.R_below n5_.out hb); clear HM HB BKB HO n5_; have HM := n2_; have HB := n3_; have BKB := n4_; have HO := n6_; have BKF := Yj hbox; clear n2_ n3_ n4_ n6_ hb hgf; have hcz0 : w7.cell? ⟨gf, 0, none⟩ = some (.int .i64 0) := (Yd hbox 0).trans rfl; have hcz1 : w7.cell? ⟨gf, 1, none⟩ = some (.int .i64 0) := (Yd hbox 1).trans rfl; have hfz0 := Ye hbox 0; have hfz1 := Ye hbox 1; clear hbox))
 generalize hW : (w7.setCell ⟨gf, 0, none⟩ (.int .i64 X)).setCell ⟨gf, 1, none⟩ (.int .i64 Y) = wz
 have BKF2 : wz.drew.heap[gf]? = some (.cells #[.int .i64 X, .int .i64 Y] 57 (0, 0)) := by
  show wz.heap[gf]? = _
  rw [← hW]
  refine blk_put (cs := #[.int .i64 X, .int .i64 0]) ?_ 1 _ rfl
  refine blk_put (cs := #[.int .i64 0, .int .i64 0]) ?_ 0 _ rfl
  exact BKF.out
 have BKB2 : wz.drew.heap[gb]? = some (.cells #[.int .i64 a0, .slice A1 l.length c1, .map (some bm), .bool false] 67 (0, 0)) := by
  show wz.heap[gb]? = _
  rw [← hW]
  exact blk_far (blk_far BKB.out NE3.out _) NE3.out _
 have HM2 := HM.out.move (w' := wz.drew) (by
  show wz.heap[bm]? = _
  rw [← hW, Below.heap_setCell _ _ _ _ NE1.out, Below.heap_setCell _ _ _ _ NE1.out])
 have HO2 : Kd.R k57 57 wz.drew w0.heap.size (fun _ => True) (.slice A1 l.length c1) l := by
  refine Kd.R_drew ?_
  rw [← hW]
  exact Kd.R_mono (Kd.R_far (p := ⟨gf, 1, none⟩) (Kd.R_far (p := ⟨gf, 0, none⟩) HO.out (fun _ hk => hk.2) _) (fun _ hk => hk.2) _) (fun _ _ => trivial)
 have HB2 : Below w0.heap.size w0 wz.drew := below_drew (by rw [← hW]; exact Yi (Yi HB.out GE.out) GE.out)
 clear hW hcz0 hcz1 hfz0 hfz1 BKF HM HB BKB HO
 have BKF := Yj BKF2
 have BKB := Yj BKB2
 have HM := Yj HM2
 have HO := Yj HO2
 have HB := Yj HB2
 clear BKF2 BKB2 HM2 HO2 HB2
 have HS := Yj hs
 clear hs
 refine start_ (n := 11) (S := fun w' => w'.cell? ⟨gb, 2, none⟩ = some (.map (some bm)) ∧ w'.cell? ⟨gf, 0, none⟩ = some (.int .i64 X) ∧ w'.cell? ⟨gf, 1, none⟩ = some (.int .i64 Y) ∧ (Instr.lookup 65 (.map (some bm)) (.agg #[.int .i64 X, .int .i64 Y]) true).run Try.prog w' = .ok (.tuple #[.int .i64 0, .bool false]) w') (ds := []) #[false, false, false, false, false, false, false, false, false, false, false] (by kernel_rfl) rfl rfl ⟨(Yd BKB.out 2).trans rfl, (Yd BKF.out 0).trans rfl, (Yd BKF.out 1).trans rfl, ((HM.out.look_ok Try.underlying65 HGD.out).trans (congrArg (fun q_ : Option Int => Result.ok (Value.tuple #[Value.int .i64 (q_.getD 0), .bool q_.isSome]) _) HS.out))⟩ (fun hHeld => ?_)
 refine with_tabW impl_builder_and.tab7 impl_builder_and.bits7 (fun HT_ HW_ => ?_)
 generalize wz.drew = wy at BKF BKB HM HO HB hHeld ⊢
 refine pure_ (i := 0) (N := some 39) (v := ?_) (a' := ?_) #[true, false, false, false, false, false, false, false, false, false, false] rfl rfl (any_of HT_.out (by kernel_rfl)) (fun _ _ _ h => h) (Or.inl ⟨by rfl, ?_⟩) ?_ ?_
 rotate_left
 ·intro w'
  go_simp
  with_reducible rfl
 rotate_left
 ·simp only [Act.put, List.setIfInBounds_toArray, List.set_cons_zero, List.set_cons_succ, i64_w, i32_w]
  rfl
 refine pure_ (i := 1) (N := some 40) (v := ?_) (a' := ?_) #[true, true, false, false, false, false, false, false, false, false, false] rfl rfl (any_of HT_.out (by kernel_rfl)) (fun _ _ _ h => h) (Or.inl ⟨by rfl, ?_⟩) ?_ ?_
 rotate_left
 ·intro w'
  go_simp
  with_reducible rfl
 rotate_left
 ·simp only [Act.put, List.setIfInBounds_toArray, List.set_cons_zero, List.set_cons_succ, i64_w, i32_w]
  rfl
 refine pure_ (i := 2) (N := some 41) (v := ?_) (a' := ?_) #[true, true, true, false, false, false, false, false, false, false, false] rfl rfl (any_of HT_.out (by kernel_rfl)) (fun _ _ _ h => h) (Or.inl ⟨by rfl, ?_⟩) ?_ ?_
 rotate_left
 ·intro w'
  go_simp
  with_reducible rfl
 rotate_left
 ·simp only [Act.put, List.setIfInBounds_toArray, List.set_cons_zero, List.set_cons_succ, i64_w, i32_w]
  rfl
 refine take_ (i := 3) (N := some 42) (v := ?_) (a' := ?_) #[true, true, true, true, false, false, false, false, false, false, false] rfl rfl (take_ofW HT_.out HW_.out (by kernel_rfl)) (fun _ _ _ h => h) (Or.inl ⟨by rfl, ?_⟩) hHeld ?_ ?_
 rotate_left
 ·rintro w' ⟨s0, s1, s2, s3⟩
  go_simp
  with_reducible rfl
 rotate_left
 ·simp only [Act.put, List.setIfInBounds_toArray, List.set_cons_zero, List.set_cons_succ, i64_w, i32_w]
  rfl
 refine take_ (i := 4) (N := some 43) (v := ?_) (a' := ?_) #[true, true, true, true, true, false, false, false, false, false, false] rfl rfl (take_ofW HT_.out HW_.out (by kernel_rfl)) (fun _ _ _ h => h) (Or.inl ⟨by rfl, ?_⟩) hHeld ?_ ?_
 rotate_left
 ·rintro w' ⟨s0, s1, s2, s3⟩
  go_simp
  with_reducible rfl
 rotate_left
 ·simp only [Act.put, List.setIfInBounds_toArray, List.set_cons_zero, List.set_cons_succ, i64_w, i32_w]
  rfl
 refine take_ (i := 5) (N := some 44) (v := ?_) (a' := ?_) #[true, true, true, true, true, true, false, false, false, false, false] rfl rfl (take_ofW HT_.out HW_.out (by kernel_rfl)) (fun _ _ _ h => h) (Or.inl ⟨by rfl, ?_⟩) hHeld ?_ ?_
 rotate_left
 ·rintro w' ⟨s0, s1, s2, s3⟩
  go_simp
  with_reducible rfl
 rotate_left
 ·simp only [Act.put, List.setIfInBounds_toArray, List.set_cons_zero, List.set_cons_succ, i64_w, i32_w]
  rfl
 refine pure_ (i := 6) (N := some 38) (v := ?_) (a' := ?_) #[true, true, true, true, true, true, true, false, false, false, false] rfl rfl (any_of HT_.out (by kernel_rfl)) (fun _ _ _ h => h) (Or.inl ⟨by rfl, ?_⟩) ?_ ?_
 rotate_left
 ·intro w'
  go_simp
  with_reducible rfl
 rotate_left
 ·simp only [Act.put, List.setIfInBounds_toArray, List.set_cons_zero, List.set_cons_succ, i64_w, i32_w]
  rfl
 refine pure_ (i := 7) (N := some 45) (v := ?_) (a' := ?_) #[true, true, true, true, true, true, true, true, false, false, false] rfl rfl (any_of HT_.out (by kernel_rfl)) (fun _ _ _ h => h) (Or.inl ⟨by rfl, ?_⟩) ?_ ?_
 rotate_left
 ·intro w'
  go_simp
  with_reducible rfl
 rotate_left
 ·simp only [Act.put, List.setIfInBounds_toArray, List.set_cons_zero, List.set_cons_succ, i64_w, i32_w]
  rfl
 refine pure_ (i := 8) (N := some 46) (v := ?_) (a' := ?_) #[true, true, true, true, true, true, true, true, true, false, false] rfl rfl (any_of HT_.out (by kernel_rfl)) (fun _ _ _ h => h) (Or.inl ⟨by rfl, ?_⟩) ?_ ?_
 rotate_left
 ·intro w'
  go_simp
  with_reducible rfl
 rotate_left
 ·simp only [Act.put, List.setIfInBounds_toArray, List.set_cons_zero, List.set_cons_succ, i64_w, i32_w]
  rfl
 refine pure_ (i := 9) (N := some 8) (v := ?_) (a' := ?_) #[true, true, true, true, true, true, true, true, true, true, false] rfl rfl (any_of HT_.out (by kernel_rfl)) (fun _ _ _ h => h) (Or.inl ⟨by rfl, ?_⟩) ?_ ?_
 rotate_left
 ·intro w'
  go_simp
  with_reducible rfl
 rotate_left
 ·simp only [Act.put, List.setIfInBounds_toArray, List.set_cons_zero, List.set_cons_succ, i64_w, i32_w]
  rfl
 refine pure_ (i := 10) (N := some 9) (v := ?_) (a' := ?_) #[true, true, true, true, true, true, true, true, true, true, true] rfl rfl (any_of HT_.out (by kernel_rfl)) (fun _ _ _ h => h) (Or.inl ⟨by rfl, ?_⟩) ?_ ?_
 rotate_left
 ·intro w'
  go_simp
  with_reducible rfl
 rotate_left
 ·simp only [Act.put, List.setIfInBounds_toArray, List.set_cons_zero, List.set_cons_succ, i64_w, i32_w]
  rfl
 refine done_ (done_of HT_.out (by kernel_rfl)) ?_
 have hcb0 := (Yd BKB.out 0).trans rfl
 have hcb1 := (Yd BKB.out 1).trans rfl
 have hcb2 := (Yd BKB.out 2).trans rfl
 have hcb3 := (Yd BKB.out 3).trans rfl
 have hfb0 := Ye BKB.out 0
 have hfb1 := Ye BKB.out 1
 have hfb2 := Ye BKB.out 2
 have hfb3 := Ye BKB.out 3
 go_wp2
 go_ret
 refine ⟨rfl, A1, c1, ?_, ?_, Yi HB.out GB.out⟩
 ·exact blk_put (cs := #[.int .i64 a0, .slice A1 l.length c1, .map (some bm), .bool false]) BKB.out 3 _ rfl
 ·exact Kd.R_mono (Kd.R_far (p := ⟨gb, 3, none⟩) (Kd.R_types HO.out BKB.out (by decide)) (fun _ hk => hk.2) _) (fun _ _ => trivial)
theorem impl_builder_and.wrap_wf (q : Int) : (Lit.int .i64 (wrap64 q)).wf = true := by
 have e1 : IntKind.i64.min = -9223372036854775808 := by decide
 have e2 : IntKind.i64.max = 9223372036854775807 := by decide
 simp only [Lit.wf, e1, e2, Bool.and_eq_true, decide_eq_true_eq]
 unfold wrap64
 omega
set_option maxHeartbeats 40000000 in
set_option maxRecDepth 100000 in
theorem impl_builder_and.calls_g (a0 : Int) (l : List S57) (x y : Int) (gb bm : Nat) (A1 : Option Addr) (c1 : Nat) (w0 w : World) (hb : Below w0.heap.size w0 w) (hbk : w.heap[gb]? = some (.cells #[.int .i64 a0, .slice A1 l.length c1, .map (some bm), .bool false] 67 (0, 0))) (ho : Kd.R k57 57 w w0.heap.size (fun _ => True) (.slice A1 l.length c1) l) (hm : Go.Proofs.YthphgkhmeobadaaX.MapF impl_building.key impl_building.elem w bm l.length (impl_building.seen a0 l l.length)) (hgb : w0.heap.size ≤ gb) (hbm : w0.heap.size ≤ bm) (hlen : l.length ≤ 600) (X Y : Int) (hX : (if y < x then y else x) = X) (hY : (if x < y then y else x) = Y) (h0 : (X == 0) = false) (hx : (Go.bits .xor .i64 X 1 == Y) = false) (h1 : (X == 1) = false) (hy : (X == Y) = false) (hwf : impl_building.key.good (⟨X, Y⟩ : S57)) (hs : impl_building.seen a0 l l.length (⟨X, Y⟩ : S57) = none) (hf : ¬ (l.length : Int) ≥ 600) :
  Calls Try.prog 27 #[.pointer (some ⟨gb, 0, none⟩), .int .i64 x, .int .i64 y] w fun e w' => e = .returned (.int .i64 (wrap64 (2 * (wrap64 (a0 + ((l.length : Int) + 1)))))) ∧ ∃ (A2 : Option Addr) (c2 : Nat), w'.heap[gb]? = some (.cells #[.int .i64 a0, .slice A2 ((l ++ [(⟨X, Y⟩ : S57)])).length c2, .map (some bm), .bool (false)] 67 (0, 0)) ∧ Kd.R k57 57 w' w0.heap.size (fun _ => True) (.slice A2 ((l ++ [(⟨X, Y⟩ : S57)])).length c2) ((l ++ [(⟨X, Y⟩ : S57)])) ∧ Below w0.heap.size w0 w' := by
 have HB := Yj hb
 have BKB := Yj hbk
 have HO := Yj ho
 have HM := Yj hm
 have GB := Yj hgb
 have GM := Yj hbm
 have HLN := Yj hlen
 clear hb hbk ho hm hgb hbm
 go_enter Try.func27, Try.ntmps27
 have hlen2 : (l ++ [(⟨X, Y⟩ : S57)]).length = l.length + 1 := by rw [List.length_append, List.length_singleton]
 have hfb_ : decide (600 ≤ (l.length : Int)) = false := decide_eq_false hf
 have hfc_ : decide ((l.length : Int) ≥ 600) = false := decide_eq_false hf
 skip
 have HGD := Yj hwf
 clear hwf
 go_wp2_with (first | ((with_reducible refine gate_dst (N := 7) rfl ?_); refine box_event ?hg (N := 7) ?hd (cs := #[.int .i64 0, .int .i64 0]) (t := 57) ?hr ?_; (case hd => rfl); (case hg => rfl); (case hr => first | (go_simp; done) | (go_simp; rfl)); intro gf hgf w7 hbox hb; have NE1 := Yj (show bm ≠ gf by have := HM.out.lt; omega); have NE3 := Yj (show gb ≠ gf by have := blk_lt BKB.out; omega); have GE := Yj (show w0.heap.size ≤ gf by rw [hgf]; exact Nat.le_trans (Nat.le_of_lt (Nat.lt_of_le_of_lt GB.out (blk_lt BKB.out))) (Nat.le_refl _)); have n2_ := Yj (HM.out.below hb); have n3_ := Yj (below_then HB.out (Nat.le_of_lt (Nat.lt_of_le_of_lt GB.out (blk_lt BKB.out))) hb); have n4_ := Yj ((hb.block _ (blk_lt BKB.out)).trans BKB.out); have n5_ := Yj (Kd.R_elderB HO.out gf (by rw [hgf]; exact Nat.le_refl _)); have n6_ := Yj (Kd.R_below n5_.out hb); clear HM HB BKB HO n5_; have HM := n2_; have HB := n3_; have BKB := n4_; have HO := n6_; have BKF := Yj hbox; clear n2_ n3_ n4_ n6_ hb hgf; have hcz0 : w7.cell? ⟨gf, 0, none⟩ = some (.int .i64 0) := (Yd hbox 0).trans rfl; have hcz1 : w7.cell? ⟨gf, 1, none⟩ = some (.int .i64 0) := (Yd hbox 1).trans rfl; have hfz0 := Ye hbox 0; have hfz1 := Ye hbox 1; clear hbox))
 generalize hW : (w7.setCell ⟨gf, 0, none⟩ (.int .i64 X)).setCell ⟨gf, 1, none⟩ (.int .i64 Y) = wz
 have BKF2 : wz.drew.heap[gf]? = some (.cells #[.int .i64 X, .int .i64 Y] 57 (0, 0)) := by
  show wz.heap[gf]? = _
  rw [← hW]
  refine blk_put (cs := #[.int .i64 X, .int .i64 0]) ?_ 1 _ rfl
  refine blk_put (cs := #[.int .i64 0, .int .i64 0]) ?_ 0 _ rfl
  exact BKF.out
 have BKB2 : wz.drew.heap[gb]? = some (.cells #[.int .i64 a0, .slice A1 l.length c1, .map (some bm), .bool false] 67 (0, 0)) := by
  show wz.heap[gb]? = _
  rw [← hW]
  exact blk_far (blk_far BKB.out NE3.out _) NE3.out _
 have HM2 := HM.out.move (w' := wz.drew) (by
  show wz.heap[bm]? = _
  rw [← hW, Below.heap_setCell _ _ _ _ NE1.out, Below.heap_setCell _ _ _ _ NE1.out])
 have HO2 : Kd.R k57 57 wz.drew w0.heap.size (fun _ => True) (.slice A1 l.length c1) l := by
  refine Kd.R_drew ?_
  rw [← hW]
  exact Kd.R_mono (Kd.R_far (p := ⟨gf, 1, none⟩) (Kd.R_far (p := ⟨gf, 0, none⟩) HO.out (fun _ hk => hk.2) _) (fun _ hk => hk.2) _) (fun _ _ => trivial)
 have HOF2 : Kd.R k57 57 wz.drew w0.heap.size (fun k => True ∧ k ≠ gf) (.slice A1 l.length c1) l := by
  refine Kd.R_drew ?_
  rw [← hW]
  exact Kd.R_far (p := ⟨gf, 1, none⟩) (Kd.R_far (p := ⟨gf, 0, none⟩) HO.out (fun _ hk => hk.2) _) (fun _ hk => hk.2) _
 have HB2 : Below w0.heap.size w0 wz.drew := below_drew (by rw [← hW]; exact Yi (Yi HB.out GE.out) GE.out)
 clear hW hcz0 hcz1 hfz0 hfz1 BKF HM HB BKB HO
 have BKF := Yj BKF2
 have BKB := Yj BKB2
 have HM := Yj HM2
 have HO := Yj HO2
 have HB := Yj HB2
 have HOF := Yj HOF2
 clear BKF2 BKB2 HM2 HO2 HB2 HOF2
 have HS := Yj hs
 clear hs
 refine start_ (n := 11) (S := fun w' => w'.cell? ⟨gb, 2, none⟩ = some (.map (some bm)) ∧ w'.cell? ⟨gf, 0, none⟩ = some (.int .i64 X) ∧ w'.cell? ⟨gf, 1, none⟩ = some (.int .i64 Y) ∧ (Instr.lookup 65 (.map (some bm)) (.agg #[.int .i64 X, .int .i64 Y]) true).run Try.prog w' = .ok (.tuple #[.int .i64 0, .bool false]) w') (ds := []) #[false, false, false, false, false, false, false, false, false, false, false] (by kernel_rfl) rfl rfl ⟨(Yd BKB.out 2).trans rfl, (Yd BKF.out 0).trans rfl, (Yd BKF.out 1).trans rfl, ((HM.out.look_ok Try.underlying65 HGD.out).trans (congrArg (fun q_ : Option Int => Result.ok (Value.tuple #[Value.int .i64 (q_.getD 0), .bool q_.isSome]) _) HS.out))⟩ (fun hHeld => ?_)
 refine with_tabW impl_builder_and.tab7 impl_builder_and.bits7 (fun HT_ HW_ => ?_)
 generalize wz.drew = wy at BKF BKB HM HO HB HOF hHeld ⊢
 refine pure_ (i := 0) (N := some 39) (v := ?_) (a' := ?_) #[true, false, false, false, false, false, false, false, false, false, false] rfl rfl (any_of HT_.out (by kernel_rfl)) (fun _ _ _ h => h) (Or.inl ⟨by rfl, ?_⟩) ?_ ?_
 rotate_left
 ·intro w'
  go_simp
  with_reducible rfl
 rotate_left
 ·simp only [Act.put, List.setIfInBounds_toArray, List.set_cons_zero, List.set_cons_succ, i64_w, i32_w]
  rfl
 refine pure_ (i := 1) (N := some 40) (v := ?_) (a' := ?_) #[true, true, false, false, false, false, false, false, false, false, false] rfl rfl (any_of HT_.out (by kernel_rfl)) (fun _ _ _ h => h) (Or.inl ⟨by rfl, ?_⟩) ?_ ?_
 rotate_left
 ·intro w'
  go_simp
  with_reducible rfl
 rotate_left
 ·simp only [Act.put, List.setIfInBounds_toArray, List.set_cons_zero, List.set_cons_succ, i64_w, i32_w]
  rfl
 refine pure_ (i := 2) (N := some 41) (v := ?_) (a' := ?_) #[true, true, true, false, false, false, false, false, false, false, false] rfl rfl (any_of HT_.out (by kernel_rfl)) (fun _ _ _ h => h) (Or.inl ⟨by rfl, ?_⟩) ?_ ?_
 rotate_left
 ·intro w'
  go_simp
  with_reducible rfl
 rotate_left
 ·simp only [Act.put, List.setIfInBounds_toArray, List.set_cons_zero, List.set_cons_succ, i64_w, i32_w]
  rfl
 refine take_ (i := 3) (N := some 42) (v := ?_) (a' := ?_) #[true, true, true, true, false, false, false, false, false, false, false] rfl rfl (take_ofW HT_.out HW_.out (by kernel_rfl)) (fun _ _ _ h => h) (Or.inl ⟨by rfl, ?_⟩) hHeld ?_ ?_
 rotate_left
 ·rintro w' ⟨s0, s1, s2, s3⟩
  go_simp
  with_reducible rfl
 rotate_left
 ·simp only [Act.put, List.setIfInBounds_toArray, List.set_cons_zero, List.set_cons_succ, i64_w, i32_w]
  rfl
 refine take_ (i := 4) (N := some 43) (v := ?_) (a' := ?_) #[true, true, true, true, true, false, false, false, false, false, false] rfl rfl (take_ofW HT_.out HW_.out (by kernel_rfl)) (fun _ _ _ h => h) (Or.inl ⟨by rfl, ?_⟩) hHeld ?_ ?_
 rotate_left
 ·rintro w' ⟨s0, s1, s2, s3⟩
  go_simp
  with_reducible rfl
 rotate_left
 ·simp only [Act.put, List.setIfInBounds_toArray, List.set_cons_zero, List.set_cons_succ, i64_w, i32_w]
  rfl
 refine take_ (i := 5) (N := some 44) (v := ?_) (a' := ?_) #[true, true, true, true, true, true, false, false, false, false, false] rfl rfl (take_ofW HT_.out HW_.out (by kernel_rfl)) (fun _ _ _ h => h) (Or.inl ⟨by rfl, ?_⟩) hHeld ?_ ?_
 rotate_left
 ·rintro w' ⟨s0, s1, s2, s3⟩
  go_simp
  with_reducible rfl
 rotate_left
 ·simp only [Act.put, List.setIfInBounds_toArray, List.set_cons_zero, List.set_cons_succ, i64_w, i32_w]
  rfl
 refine pure_ (i := 6) (N := some 38) (v := ?_) (a' := ?_) #[true, true, true, true, true, true, true, false, false, false, false] rfl rfl (any_of HT_.out (by kernel_rfl)) (fun _ _ _ h => h) (Or.inl ⟨by rfl, ?_⟩) ?_ ?_
 rotate_left
 ·intro w'
  go_simp
  with_reducible rfl
 rotate_left
 ·simp only [Act.put, List.setIfInBounds_toArray, List.set_cons_zero, List.set_cons_succ, i64_w, i32_w]
  rfl
 refine pure_ (i := 7) (N := some 45) (v := ?_) (a' := ?_) #[true, true, true, true, true, true, true, true, false, false, false] rfl rfl (any_of HT_.out (by kernel_rfl)) (fun _ _ _ h => h) (Or.inl ⟨by rfl, ?_⟩) ?_ ?_
 rotate_left
 ·intro w'
  go_simp
  with_reducible rfl
 rotate_left
 ·simp only [Act.put, List.setIfInBounds_toArray, List.set_cons_zero, List.set_cons_succ, i64_w, i32_w]
  rfl
 refine pure_ (i := 8) (N := some 46) (v := ?_) (a' := ?_) #[true, true, true, true, true, true, true, true, true, false, false] rfl rfl (any_of HT_.out (by kernel_rfl)) (fun _ _ _ h => h) (Or.inl ⟨by rfl, ?_⟩) ?_ ?_
 rotate_left
 ·intro w'
  go_simp
  with_reducible rfl
 rotate_left
 ·simp only [Act.put, List.setIfInBounds_toArray, List.set_cons_zero, List.set_cons_succ, i64_w, i32_w]
  rfl
 refine pure_ (i := 9) (N := some 8) (v := ?_) (a' := ?_) #[true, true, true, true, true, true, true, true, true, true, false] rfl rfl (any_of HT_.out (by kernel_rfl)) (fun _ _ _ h => h) (Or.inl ⟨by rfl, ?_⟩) ?_ ?_
 rotate_left
 ·intro w'
  go_simp
  with_reducible rfl
 rotate_left
 ·simp only [Act.put, List.setIfInBounds_toArray, List.set_cons_zero, List.set_cons_succ, i64_w, i32_w]
  rfl
 refine pure_ (i := 10) (N := some 9) (v := ?_) (a' := ?_) #[true, true, true, true, true, true, true, true, true, true, true] rfl rfl (any_of HT_.out (by kernel_rfl)) (fun _ _ _ h => h) (Or.inl ⟨by rfl, ?_⟩) ?_ ?_
 rotate_left
 ·intro w'
  go_simp
  with_reducible rfl
 rotate_left
 ·simp only [Act.put, List.setIfInBounds_toArray, List.set_cons_zero, List.set_cons_succ, i64_w, i32_w]
  rfl
 refine done_ (done_of HT_.out (by kernel_rfl)) ?_
 have hcb1 : wy.cell? ⟨gb, 1, none⟩ = some (.slice A1 l.length c1) := (Yd BKB.out 1).trans rfl
 go_wp2
 clear hcb1
 have BKF2 := Yj (show wy.drew.heap[gf]? = _ from BKF.out)
 have BKB2 := Yj (show wy.drew.heap[gb]? = _ from BKB.out)
 have HM2 := Yj (HM.out.move (w' := wy.drew) rfl)
 have HO2 := Yj (Kd.R_drew (w := wy) HO.out)
 have HB2 := Yj (show Below w0.heap.size w0 wy.drew from below_drew HB.out)
 clear BKF BKB HM HO HB
 have BKF := BKF2
 have BKB := BKB2
 have HM := HM2
 have HO := HO2
 have HB := HB2
 clear BKF2 BKB2 HM2 HO2 HB2
 have HOF2 := Yj (Kd.R_drew (w := wy) HOF.out)
 clear HOF
 have HOF := HOF2
 clear HOF2
 refine start_ (n := 13) (S := fun w' => w'.cell? ⟨gb, 1, none⟩ = some (.slice A1 l.length c1) ∧ w'.cell? ⟨gf, 0, none⟩ = some (.int .i64 X) ∧ w'.cell? ⟨gf, 1, none⟩ = some (.int .i64 Y)) (ds := [12]) #[false, false, false, false, false, false, false, false, false, false, false, false, false] (by kernel_rfl) rfl rfl ⟨(Yd BKB.out 1).trans rfl, (Yd BKF.out 0).trans rfl, (Yd BKF.out 1).trans rfl⟩ (fun hHeld => ?_)
 refine with_tabW impl_builder_and.tab13 impl_builder_and.bits13 (fun HT_ HW_ => ?_)
 generalize wy.drew = wx at BKF BKB HM HO HB HOF hHeld ⊢
 refine pure_ (i := 0) (N := some 59) (v := ?_) (a' := ?_) #[true, false, false, false, false, false, false, false, false, false, false, false, false] rfl rfl (any_of HT_.out (by kernel_rfl)) (fun _ _ _ h => h) (Or.inl ⟨by rfl, ?_⟩) ?_ ?_
 rotate_left
 ·intro w'
  go_simp
  with_reducible rfl
 rotate_left
 ·simp only [Act.put, List.setIfInBounds_toArray, List.set_cons_zero, List.set_cons_succ, i64_w, i32_w]
  rfl
 refine pure_ (i := 1) (N := some 60) (v := ?_) (a' := ?_) #[true, true, false, false, false, false, false, false, false, false, false, false, false] rfl rfl (any_of HT_.out (by kernel_rfl)) (fun _ _ _ h => h) (Or.inl ⟨by rfl, ?_⟩) ?_ ?_
 rotate_left
 ·intro w'
  go_simp
  with_reducible rfl
 rotate_left
 ·simp only [Act.put, List.setIfInBounds_toArray, List.set_cons_zero, List.set_cons_succ, i64_w, i32_w]
  rfl
 refine pure_ (i := 2) (N := some 61) (v := ?_) (a' := ?_) #[true, true, true, false, false, false, false, false, false, false, false, false, false] rfl rfl (any_of HT_.out (by kernel_rfl)) (fun _ _ _ h => h) (Or.inl ⟨by rfl, ?_⟩) ?_ ?_
 rotate_left
 ·intro w'
  go_simp
  with_reducible rfl
 rotate_left
 ·simp only [Act.put, List.setIfInBounds_toArray, List.set_cons_zero, List.set_cons_succ, i64_w, i32_w]
  rfl
 refine pure_ (i := 3) (N := some 62) (v := ?_) (a' := ?_) #[true, true, true, true, false, false, false, false, false, false, false, false, false] rfl rfl (any_of HT_.out (by kernel_rfl)) (fun _ _ _ h => h) (Or.inl ⟨by rfl, ?_⟩) ?_ ?_
 rotate_left
 ·intro w'
  go_simp
  with_reducible rfl
 rotate_left
 ·simp only [Act.put, List.setIfInBounds_toArray, List.set_cons_zero, List.set_cons_succ, i64_w, i32_w]
  rfl
 refine pure_ (i := 4) (N := some 63) (v := ?_) (a' := ?_) #[true, true, true, true, true, false, false, false, false, false, false, false, false] rfl rfl (any_of HT_.out (by kernel_rfl)) (fun _ _ _ h => h) (Or.inl ⟨by rfl, ?_⟩) ?_ ?_
 rotate_left
 ·intro w'
  go_simp
  with_reducible rfl
 rotate_left
 ·simp only [Act.put, List.setIfInBounds_toArray, List.set_cons_zero, List.set_cons_succ, i64_w, i32_w]
  rfl
 refine take_ (i := 5) (N := some 64) (v := ?_) (a' := ?_) #[true, true, true, true, true, true, false, false, false, false, false, false, false] rfl rfl (take_ofW HT_.out HW_.out (by kernel_rfl)) (fun _ _ _ h => h) (Or.inl ⟨by rfl, ?_⟩) hHeld ?_ ?_
 rotate_left
 ·rintro w' ⟨s0, s1, s2⟩
  go_simp
  with_reducible rfl
 rotate_left
 ·simp only [Act.put, List.setIfInBounds_toArray, List.set_cons_zero, List.set_cons_succ, i64_w, i32_w]
  rfl
 refine take_ (i := 6) (N := some 65) (v := ?_) (a' := ?_) #[true, true, true, true, true, true, true, false, false, false, false, false, false] rfl rfl (take_ofW HT_.out HW_.out (by kernel_rfl)) (fun _ _ _ h => h) (Or.inl ⟨by rfl, ?_⟩) hHeld ?_ ?_
 rotate_left
 ·rintro w' ⟨s0, s1, s2⟩
  go_simp
  with_reducible rfl
 rotate_left
 ·simp only [Act.put, List.setIfInBounds_toArray, List.set_cons_zero, List.set_cons_succ, i64_w, i32_w]
  rfl
 refine one_ (i := 7) (N := some 66) #[true, true, true, true, true, true, true, true, false, false, false, false, false] rfl rfl (one_of HT_.out (by kernel_rfl)) (by decide) (fun K hK => ?_)
 refine value_ (w1 := ?_) (v := ?_) (by rfl) rfl ?_ ?_
 rotate_left 2
 ·go_simp
  constructor
  ·rfl
  ·rfl
 refine hK.out _ _ ⟨(Yd (Yc BKB.out _) 1).trans rfl, (Yd (Yc BKF.out _) 0).trans rfl, (Yd (Yc BKF.out _) 1).trans rfl⟩ (fun hHeld => ?_)
 clear hK K
 refine norm_ (a' := ?_) ?_ ?_
 rotate_left
 ·show Act.put _ (some 66) _ = _
  simp only [Act.put, List.setIfInBounds_toArray, List.set_cons_zero, List.set_cons_succ, i64_w, i32_w]
  rfl
 refine one_ (i := 8) (N := some 67) #[true, true, true, true, true, true, true, true, true, false, false, false, false] rfl rfl (one_of HT_.out (by kernel_rfl)) (by decide) (fun K hK => ?_)
 refine Kd.R_append_step k57 (w0 := w0) w0.heap.size (by rfl) (.tmp 64) (.tmp 66) 26 57 (.agg #[(.int .i64 0), (.int .i64 0)]) 16 rfl Try.underlying26 info57 rfl (by decide) (by omega) (.slice A1 l.length c1) l (⟨X, Y⟩ : S57) [.int .i64 X, .int .i64 Y] (fun _ => True) (fun _ => False) rfl rfl ?aP (fun _ hk => hk.elim) ?aF ?aO ?aB ?aS ?aL ?_
 (case aP => exact k57_mkM _ _ _ (⟨X, Y⟩ : S57))
 (case aF => exact (fun _ _ => trivial))
 (case aO => exact HO.out)
 (case aB => exact HB.out)
 (case aS => exact Nat.le_of_lt (Nat.lt_of_le_of_lt GB.out (blk_lt BKB.out)))
 (case aL => have := HLN.out; omega)
 intro v9 w9 ho hb hg hat
 have n0_ := Yj (blk_grown BKB.out hg (Kd.R_ne HO.out BKB.out (by decide)))
 have n1_ := Yj (blk_grown BKF.out hg (Kd.R_away HOF.out (fun _ hk => hk.2)))
 have n2_ := Yj (HM.out.grown hg (fun e_ => by obtain ⟨cells, hb'⟩ := Kd.R_typed HO.out bm e_.symm; obtain ⟨es, cl_, hb2⟩ := HM.out.block; rw [hb'] at hb2; cases hb2))
 have n3_ := Yj ho
 have n4_ := Yj hb
 obtain ⟨A2, c2, rfl⟩ := Kd.R_slice n3_.out
 rw [hlen2] at n3_
 clear ho hb hg hat BKB BKF HM HO HB HOF
 have BKB := n0_
 have BKF := n1_
 have HM := n2_
 have HO := n3_
 have HB := n4_
 clear n0_ n1_ n2_ n3_ n4_
 refine hK.out _ _ ⟨(Yd BKB.out 1).trans rfl, (Yd BKF.out 0).trans rfl, (Yd BKF.out 1).trans rfl⟩ (fun hHeld => ?_)
 clear hK K
 refine norm_ (a' := ?_) ?_ ?_
 rotate_left
 ·show Act.put _ (some 67) _ = _
  simp only [Act.put, List.setIfInBounds_toArray, List.set_cons_zero, List.set_cons_succ, i64_w, i32_w]
  rfl
 refine pure_ (i := 9) (N := some 68) (v := ?_) (a' := ?_) #[true, true, true, true, true, true, true, true, true, true, false, false, false] rfl rfl (any_of HT_.out (by kernel_rfl)) (fun _ _ _ h => h) (Or.inl ⟨by rfl, ?_⟩) ?_ ?_
 rotate_left
 ·intro w'
  go_simp
  with_reducible rfl
 rotate_left
 ·simp only [Act.put, List.setIfInBounds_toArray, List.set_cons_zero, List.set_cons_succ, i64_w, i32_w]
  rfl
 refine pure_ (i := 10) (N := some 69) (v := ?_) (a' := ?_) #[true, true, true, true, true, true, true, true, true, true, true, false, false] rfl rfl (any_of HT_.out (by kernel_rfl)) (fun _ _ _ h => h) (Or.inl ⟨by rfl, ?_⟩) ?_ ?_
 rotate_left
 ·intro w'
  go_simp
  with_reducible rfl
 rotate_left
 ·simp only [Act.put, List.setIfInBounds_toArray, List.set_cons_zero, List.set_cons_succ, i64_w, i32_w]
  rfl
 refine pure_ (i := 11) (N := some 70) (v := ?_) (a' := ?_) #[true, true, true, true, true, true, true, true, true, true, true, true, false] rfl rfl (any_of HT_.out (by kernel_rfl)) (fun _ _ _ h => h) (Or.inl ⟨by rfl, ?_⟩) ?_ ?_
 rotate_left
 ·intro w'
  go_simp
  with_reducible rfl
 rotate_left
 ·simp only [Act.put, List.setIfInBounds_toArray, List.set_cons_zero, List.set_cons_succ, i64_w, i32_w]
  rfl
 refine last_ (i := 12) (N := none) #[true, true, true, true, true, true, true, true, true, true, true, true, true] rfl rfl (one_of HT_.out (by kernel_rfl)) (by decide) (fun K hK => ?_)
 have hs30 : w9.cell? ⟨gb, 1, none⟩ = some (.slice A1 l.length c1) := (Yd BKB.out 1).trans rfl
 have hfs30 := Ye BKB.out 1
 refine skip_ (w1 := ?_) (by rfl) rfl ?_ ?_
 rotate_left
 ·go_simp
  rfl
 refine hK.out _ _ ?_
 clear hK K
 refine done_ (done_of HT_.out (by kernel_rfl)) ?_
 (try go_wp2)
 generalize hV : w9.setCell ⟨gb, 1, none⟩ (.slice A2 (l.length + 1) c2) = wv
 have NEF := Yj (blk_ne BKF.out BKB.out (by decide))
 have BKB2 : wv.drew.heap[gb]? = some (.cells #[.int .i64 a0, .slice A2 (l.length + 1) c2, .map (some bm), .bool false] 67 (0, 0)) := by
  show wv.heap[gb]? = _
  rw [← hV]
  exact blk_put (cs := #[.int .i64 a0, .slice A1 l.length c1, .map (some bm), .bool false]) BKB.out 1 _ rfl
 have BKF2 : wv.drew.heap[gf]? = some (.cells #[.int .i64 X, .int .i64 Y] 57 (0, 0)) := by
  show wv.heap[gf]? = _
  rw [← hV]
  exact blk_far BKF.out NEF.out _
 have HM2 := HM.out.move (w' := wv.drew) (by
  show wv.heap[bm]? = _
  rw [← hV, Below.heap_setCell _ _ _ _ (show bm ≠ gb from fun e_ => by obtain ⟨es, cl_, hb2⟩ := HM.out.block; rw [e_, BKB.out] at hb2; cases hb2)])
 have HO2 : Kd.R k57 57 wv.drew w0.heap.size (fun _ => True) (.slice A2 (l.length + 1) c2) (l ++ [(⟨X, Y⟩ : S57)]) := by
  refine Kd.R_drew ?_
  rw [← hV]
  exact Kd.R_mono (Kd.R_far (p := ⟨gb, 1, none⟩) (Kd.R_types HO.out BKB.out (by decide)) (fun _ hk => hk.2) _) (fun _ _ => trivial)
 have HB2 : Below w0.heap.size w0 wv.drew := below_drew (by rw [← hV]; exact Yi HB.out GB.out)
 clear hV hs30 hfs30 BKF HM HB BKB HO
 have BKF := Yj BKF2
 have BKB := Yj BKB2
 have HM := Yj HM2
 have HO := Yj HO2
 have HB := Yj HB2
 clear BKF2 BKB2 HM2 HO2 HB2
 refine start_ (n := 14) (S := fun w' => w'.cell? ⟨gb, 0, none⟩ = some (.int .i64 a0) ∧ w'.cell? ⟨gb, 1, none⟩ = some (.slice A2 (l.length + 1) c2)) (ds := []) #[false, false, false, false, false, false, false, false, false, false, false, false, false, false] (by kernel_rfl) rfl rfl ⟨(Yd BKB.out 0).trans rfl, (Yd BKB.out 1).trans rfl⟩ (fun hHeld => ?_)
 refine with_tabW impl_builder_and.tab14 impl_builder_and.bits14 (fun HT_ HW_ => ?_)
 generalize wv.drew = wu at BKF BKB HM HO HB hHeld ⊢
 refine pure_ (i := 0) (N := some 71) (v := ?_) (a' := ?_) #[true, false, false, false, false, false, false, false, false, false, false, false, false, false] rfl rfl (any_of HT_.out (by kernel_rfl)) (fun _ _ _ h => h) (Or.inl ⟨by rfl, ?_⟩) ?_ ?_
 rotate_left
 ·intro w'
  go_simp
  with_reducible rfl
 rotate_left
 ·simp only [Act.put, List.setIfInBounds_toArray, List.set_cons_zero, List.set_cons_succ, i64_w, i32_w]
  rfl
 refine pure_ (i := 1) (N := some 72) (v := ?_) (a' := ?_) #[true, true, false, false, false, false, false, false, false, false, false, false, false, false] rfl rfl (any_of HT_.out (by kernel_rfl)) (fun _ _ _ h => h) (Or.inl ⟨by rfl, ?_⟩) ?_ ?_
 rotate_left
 ·intro w'
  go_simp
  with_reducible rfl
 rotate_left
 ·simp only [Act.put, List.setIfInBounds_toArray, List.set_cons_zero, List.set_cons_succ, i64_w, i32_w]
  rfl
 refine pure_ (i := 2) (N := some 73) (v := ?_) (a' := ?_) #[true, true, true, false, false, false, false, false, false, false, false, false, false, false] rfl rfl (any_of HT_.out (by kernel_rfl)) (fun _ _ _ h => h) (Or.inl ⟨by rfl, ?_⟩) ?_ ?_
 rotate_left
 ·intro w'
  go_simp
  with_reducible rfl
 rotate_left
 ·simp only [Act.put, List.setIfInBounds_toArray, List.set_cons_zero, List.set_cons_succ, i64_w, i32_w]
  rfl
 refine pure_ (i := 3) (N := some 74) (v := ?_) (a' := ?_) #[true, true, true, true, false, false, false, false, false, false, false, false, false, false] rfl rfl (any_of HT_.out (by kernel_rfl)) (fun _ _ _ h => h) (Or.inl ⟨by rfl, ?_⟩) ?_ ?_
 rotate_left
 ·intro w'
  go_simp
  with_reducible rfl
 rotate_left
 ·simp only [Act.put, List.setIfInBounds_toArray, List.set_cons_zero, List.set_cons_succ, i64_w, i32_w]
  rfl
 refine pure_ (i := 5) (N := some 76) (v := ?_) (a' := ?_) #[true, true, true, true, false, true, false, false, false, false, false, false, false, false] rfl rfl (any_of HT_.out (by kernel_rfl)) (fun _ _ _ h => h) (Or.inl ⟨by rfl, ?_⟩) ?_ ?_
 rotate_left
 ·intro w'
  go_simp
  with_reducible rfl
 rotate_left
 ·simp only [Act.put, List.setIfInBounds_toArray, List.set_cons_zero, List.set_cons_succ, i64_w, i32_w]
  rfl
 refine pure_ (i := 6) (N := some 77) (v := ?_) (a' := ?_) #[true, true, true, true, false, true, true, false, false, false, false, false, false, false] rfl rfl (any_of HT_.out (by kernel_rfl)) (fun _ _ _ h => h) (Or.inl ⟨by rfl, ?_⟩) ?_ ?_
 rotate_left
 ·intro w'
  go_simp
  with_reducible rfl
 rotate_left
 ·simp only [Act.put, List.setIfInBounds_toArray, List.set_cons_zero, List.set_cons_succ, i64_w, i32_w]
  rfl
 refine pure_ (i := 7) (N := some 78) (v := ?_) (a' := ?_) #[true, true, true, true, false, true, true, true, false, false, false, false, false, false] rfl rfl (any_of HT_.out (by kernel_rfl)) (fun _ _ _ h => h) (Or.inl ⟨by rfl, ?_⟩) ?_ ?_
 rotate_left
 ·intro w'
  go_simp
  with_reducible rfl
 rotate_left
 ·simp only [Act.put, List.setIfInBounds_toArray, List.set_cons_zero, List.set_cons_succ, i64_w, i32_w]
  rfl
 refine pure_ (i := 8) (N := some 79) (v := ?_) (a' := ?_) #[true, true, true, true, false, true, true, true, true, false, false, false, false, false] rfl rfl (any_of HT_.out (by kernel_rfl)) (fun _ _ _ h => h) (Or.inl ⟨by rfl, ?_⟩) ?_ ?_
 rotate_left
 ·intro w'
  go_simp
  with_reducible rfl
 rotate_left
 ·simp only [Act.put, List.setIfInBounds_toArray, List.set_cons_zero, List.set_cons_succ, i64_w, i32_w]
  rfl
 refine take_ (i := 4) (N := some 75) (v := ?_) (a' := ?_) #[true, true, true, true, true, true, true, true, true, false, false, false, false, false] rfl rfl (take_ofW HT_.out HW_.out (by kernel_rfl)) (fun _ _ _ h => h) (Or.inl ⟨by rfl, ?_⟩) hHeld ?_ ?_
 rotate_left
 ·rintro w' ⟨s0, s1⟩
  go_simp
  with_reducible rfl
 rotate_left
 ·simp only [Act.put, List.setIfInBounds_toArray, List.set_cons_zero, List.set_cons_succ, i64_w, i32_w]
  rfl
 refine take_ (i := 9) (N := some 80) (v := ?_) (a' := ?_) #[true, true, true, true, true, true, true, true, true, true, false, false, false, false] rfl rfl (take_ofW HT_.out HW_.out (by kernel_rfl)) (fun _ _ _ h => h) (Or.inl ⟨by rfl, ?_⟩) hHeld ?_ ?_
 rotate_left
 ·rintro w' ⟨s0, s1⟩
  go_simp
  with_reducible rfl
 rotate_left
 ·simp only [Act.put, List.setIfInBounds_toArray, List.set_cons_zero, List.set_cons_succ, i64_w, i32_w]
  rfl
 refine pure_ (i := 10) (N := some 81) (v := ?_) (a' := ?_) #[true, true, true, true, true, true, true, true, true, true, true, false, false, false] rfl rfl (any_of HT_.out (by kernel_rfl)) (fun _ _ _ h => h) (Or.inl ⟨by rfl, ?_⟩) ?_ ?_
 rotate_left
 ·intro w'
  go_simp
  with_reducible rfl
 rotate_left
 ·simp only [Act.put, List.setIfInBounds_toArray, List.set_cons_zero, List.set_cons_succ, i64_w, i32_w]
  rfl
 refine pure_ (i := 11) (N := some 82) (v := ?_) (a' := ?_) #[true, true, true, true, true, true, true, true, true, true, true, true, false, false] rfl rfl (any_of HT_.out (by kernel_rfl)) (fun _ _ _ h => h) (Or.inl ⟨by rfl, ?_⟩) ?_ ?_
 rotate_left
 ·intro w'
  go_simp
  with_reducible rfl
 rotate_left
 ·simp only [Act.put, List.setIfInBounds_toArray, List.set_cons_zero, List.set_cons_succ, i64_w, i32_w]
  rfl
 refine pure_ (i := 12) (N := some 83) (v := ?_) (a' := ?_) #[true, true, true, true, true, true, true, true, true, true, true, true, true, false] rfl rfl (any_of HT_.out (by kernel_rfl)) (fun _ _ _ h => h) (Or.inl ⟨by rfl, ?_⟩) ?_ ?_
 rotate_left
 ·intro w'
  go_simp
  with_reducible rfl
 rotate_left
 ·simp only [Act.put, List.setIfInBounds_toArray, List.set_cons_zero, List.set_cons_succ, i64_w, i32_w]
  rfl
 refine pure_ (i := 13) (N := some 10) (v := ?_) (a' := ?_) #[true, true, true, true, true, true, true, true, true, true, true, true, true, true] rfl rfl (any_of HT_.out (by kernel_rfl)) (fun _ _ _ h => h) (Or.inl ⟨by rfl, ?_⟩) ?_ ?_
 rotate_left
 ·intro w'
  go_simp
  with_reducible rfl
 rotate_left
 ·simp only [Act.put, List.setIfInBounds_toArray, List.set_cons_zero, List.set_cons_succ, i64_w, i32_w]
  rfl
 refine done_ (done_of HT_.out (by kernel_rfl)) ?_
 (try go_wp2)
 have BKF2 := Yj (show wu.drew.heap[gf]? = _ from BKF.out)
 have BKB2 := Yj (show wu.drew.heap[gb]? = _ from BKB.out)
 have HM2 := Yj (HM.out.move (w' := wu.drew) rfl)
 have HO2 := Yj (Kd.R_drew (w := wu) HO.out)
 have HB2 := Yj (show Below w0.heap.size w0 wu.drew from below_drew HB.out)
 clear BKF BKB HM HO HB
 have BKF := BKF2
 have BKB := BKB2
 have HM := HM2
 have HO := HO2
 have HB := HB2
 clear BKF2 BKB2 HM2 HO2 HB2
 refine start_ (n := 7) (S := fun w' => w'.cell? ⟨gb, 2, none⟩ = some (.map (some bm)) ∧ w'.cell? ⟨gf, 0, none⟩ = some (.int .i64 X) ∧ w'.cell? ⟨gf, 1, none⟩ = some (.int .i64 Y)) (ds := [6]) #[false, false, false, false, false, false, false] (by kernel_rfl) rfl rfl ⟨(Yd BKB.out 2).trans rfl, (Yd BKF.out 0).trans rfl, (Yd BKF.out 1).trans rfl⟩ (fun hHeld => ?_)
 generalize wu.drew = wt at BKF BKB HM HO HB hHeld ⊢
 refine pure_ (i := 0) (N := some 84) (v := ?_) (a' := ?_) #[true, false, false, false, false, false, false] rfl rfl (by kernel_rfl) (fun _ _ _ h => h) (Or.inl ⟨by rfl, ?_⟩) ?_ ?_
 rotate_left
 ·intro w'
  go_simp
  with_reducible rfl
 rotate_left
 ·simp only [Act.put, List.setIfInBounds_toArray, List.set_cons_zero, List.set_cons_succ, i64_w, i32_w]
  rfl
 refine pure_ (i := 1) (N := some 85) (v := ?_) (a' := ?_) #[true, true, false, false, false, false, false] rfl rfl (by kernel_rfl) (fun _ _ _ h => h) (Or.inl ⟨by rfl, ?_⟩) ?_ ?_
 rotate_left
 ·intro w'
  go_simp
  with_reducible rfl
 rotate_left
 ·simp only [Act.put, List.setIfInBounds_toArray, List.set_cons_zero, List.set_cons_succ, i64_w, i32_w]
  rfl
 refine pure_ (i := 2) (N := some 86) (v := ?_) (a' := ?_) #[true, true, true, false, false, false, false] rfl rfl (by kernel_rfl) (fun _ _ _ h => h) (Or.inl ⟨by rfl, ?_⟩) ?_ ?_
 rotate_left
 ·intro w'
  go_simp
  with_reducible rfl
 rotate_left
 ·simp only [Act.put, List.setIfInBounds_toArray, List.set_cons_zero, List.set_cons_succ, i64_w, i32_w]
  rfl
 refine pure_ (i := 5) (N := some 89) (v := ?_) (a' := ?_) #[true, true, true, false, false, true, false] rfl rfl (by kernel_rfl) (fun _ _ _ h => h) (Or.inl ⟨by rfl, ?_⟩) ?_ ?_
 rotate_left
 ·intro w'
  go_simp
  with_reducible rfl
 rotate_left
 ·simp only [Act.put, List.setIfInBounds_toArray, List.set_cons_zero, List.set_cons_succ, i64_w, i32_w]
  rfl
 refine take_ (i := 3) (N := some 87) (v := ?_) (a' := ?_) #[true, true, true, true, false, true, false] rfl rfl (by kernel_rfl) (fun _ _ _ h => h) (Or.inl ⟨by rfl, ?_⟩) hHeld ?_ ?_
 rotate_left
 ·rintro w' ⟨s0, s1, s2⟩
  go_simp
  with_reducible rfl
 rotate_left
 ·simp only [Act.put, List.setIfInBounds_toArray, List.set_cons_zero, List.set_cons_succ, i64_w, i32_w]
  rfl
 refine take_ (i := 4) (N := some 88) (v := ?_) (a' := ?_) #[true, true, true, true, true, true, false] rfl rfl (by kernel_rfl) (fun _ _ _ h => h) (Or.inl ⟨by rfl, ?_⟩) hHeld ?_ ?_
 rotate_left
 ·rintro w' ⟨s0, s1, s2⟩
  go_simp
  with_reducible rfl
 rotate_left
 ·simp only [Act.put, List.setIfInBounds_toArray, List.set_cons_zero, List.set_cons_succ, i64_w, i32_w]
  rfl
 refine last_ (i := 6) (N := none) #[true, true, true, true, true, true, true] rfl rfl (by kernel_rfl) (by decide) (fun K hK => ?_)
 refine Go.Proofs.YthphgkhmeobadaaX.mapF_store_step (by rfl) rfl (.tmp 87) (.tmp 88) (.tmp 89) 65 rfl Try.underlying65 HM.out ?hn rfl (⟨X, Y⟩ : S57) (wrap64 (2 * (wrap64 (a0 + ((l.length : Int) + 1))))) rfl rfl HGD.out (impl_builder_and.wrap_wf _) ?_
 (case hn => have := HLN.out; unfold maxLen; omega)
 intro w8 hm9 hg9
 have HG9 := Yj hg9
 clear hm9 hg9
 refine hK.out _ _ ?_
 clear hK K
 refine done_ (by kernel_rfl) ?_
 (try go_wp2)
 go_ret
 rw [hlen2]
 have nb : some gb ≠ some bm := by
  intro e_
  injection e_ with e_
  obtain ⟨es, cl_, hb⟩ := HM.out.block
  rw [← e_, BKB.out] at hb
  cases hb
 refine ⟨?_, A2, c2, (HG9.out.block gb (blk_lt BKB.out) nb).trans BKB.out, ?_, HB.out.grown HG9.out (Nat.le_of_lt (Nat.lt_of_le_of_lt GB.out (blk_lt BKB.out))) (fun k hk => by injection hk with hk; have := GM.out; omega)⟩
 ·rfl
 ·exact Kd.R_grown1 HO.out rfl HG9.out (fun e_ => by obtain ⟨cells, hb'⟩ := Kd.R_typed HO.out bm e_.symm; obtain ⟨es, cl_, hb⟩ := HM.out.block; rw [hb'] at hb; cases hb)
theorem impl_builder_and.calls (a0 : Int) (l : List S57) (x y : Int) (gb bm : Nat) (A1 : Option Addr) (c1 : Nat) (w0 w : World) (hb : Below w0.heap.size w0 w) (hbk : w.heap[gb]? = some (.cells #[.int .i64 a0, .slice A1 l.length c1, .map (some bm), .bool false] 67 (0, 0))) (ho : Kd.R k57 57 w w0.heap.size (fun _ => True) (.slice A1 l.length c1) l) (hm : Go.Proofs.YthphgkhmeobadaaX.MapF impl_building.key impl_building.elem w bm l.length (impl_building.seen a0 l l.length)) (hgb : w0.heap.size ≤ gb) (hbm : w0.heap.size ≤ bm) (hlen : l.length ≤ 600) (hwx : (Lit.int .i64 x).wf = true) (hwy : (Lit.int .i64 y).wf = true) :
  Calls Try.prog 27 #[.pointer (some ⟨gb, 0, none⟩), .int .i64 x, .int .i64 y] w fun e w' => e = .returned (.int .i64 ((impl_builder_and.f a0 l x y).1)) ∧ ∃ (A2 : Option Addr) (c2 : Nat), w'.heap[gb]? = some (.cells #[.int .i64 a0, .slice A2 ((impl_builder_and.f a0 l x y).2.1).length c2, .map (some bm), .bool ((impl_builder_and.f a0 l x y).2.2)] 67 (0, 0)) ∧ Kd.R k57 57 w' w0.heap.size (fun _ => True) (.slice A2 ((impl_builder_and.f a0 l x y).2.1).length c2) ((impl_builder_and.f a0 l x y).2.1) ∧ Below w0.heap.size w0 w' := by
 unfold impl_builder_and.f impl_builder_and.g
 by_cases h0 : (if y < x then y else x) = 0
 ·rw [if_pos h0]
  exact impl_builder_and.calls_a a0 l x y gb bm A1 c1 w0 w hb hbk ho hm hgb hbm hlen _ _ rfl rfl (beq_iff_eq.mpr h0)
 ·rw [if_neg h0]
  have g0 := beq_eq_false_iff_ne.mpr h0
  by_cases hx : Go.bits .xor .i64 (if y < x then y else x) 1 = (if x < y then y else x)
  ·rw [if_pos hx]
   exact impl_builder_and.calls_b a0 l x y gb bm A1 c1 w0 w hb hbk ho hm hgb hbm hlen _ _ rfl rfl g0 (beq_iff_eq.mpr hx)
  ·rw [if_neg hx]
   have gx := beq_eq_false_iff_ne.mpr hx
   by_cases h1 : (if y < x then y else x) = 1
   ·rw [if_pos h1]
    exact impl_builder_and.calls_c a0 l x y gb bm A1 c1 w0 w hb hbk ho hm hgb hbm hlen _ _ rfl rfl g0 gx (beq_iff_eq.mpr h1)
   ·rw [if_neg h1]
    have g1 := beq_eq_false_iff_ne.mpr h1
    by_cases hy : (if y < x then y else x) = (if x < y then y else x)
    ·rw [if_pos hy]
     exact impl_builder_and.calls_d a0 l x y gb bm A1 c1 w0 w hb hbk ho hm hgb hbm hlen _ _ rfl rfl g0 gx g1 (beq_iff_eq.mpr hy)
    ·rw [if_neg hy]
     have gy := beq_eq_false_iff_ne.mpr hy
     have hwf : impl_building.key.good ⟨(if y < x then y else x), (if x < y then y else x)⟩ := by
      refine ⟨?_, ?_⟩
      ·show (Lit.int .i64 (if y < x then y else x)).wf = true
       split <;> assumption
      ·show (Lit.int .i64 (if x < y then y else x)).wf = true
       split <;> assumption
     cases hs : impl_building.seen a0 l l.length ⟨(if y < x then y else x), (if x < y then y else x)⟩ with
     | some e0 => exact impl_builder_and.calls_e a0 l x y gb bm A1 c1 w0 w hb hbk ho hm hgb hbm hlen _ _ rfl rfl g0 gx g1 gy hwf e0 hs
     | none =>
      by_cases hf : (l.length : Int) ≥ 600
      ·simp only [if_pos hf]
       exact impl_builder_and.calls_f a0 l x y gb bm A1 c1 w0 w hb hbk ho hm hgb hbm hlen _ _ rfl rfl g0 gx g1 gy hwf hs hf
      ·simp only [if_neg hf]
       exact impl_builder_and.calls_g a0 l x y gb bm A1 c1 w0 w hb hbk ho hm hgb hbm hlen _ _ rfl rfl g0 gx g1 gy hwf hs hf


end Go.Proofs.Ythphgkhmeobadaa.XFnAddAndOr
