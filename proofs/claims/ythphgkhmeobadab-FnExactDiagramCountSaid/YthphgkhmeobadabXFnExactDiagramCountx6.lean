/- Printed by a program of this session out of the translation: the Go functions that a law uses as plain Lean functions, with the proofs of their calls, or the law's row.
Conditions: those that each theorem states. -/
import Derived.Test.YthphgkhmeobadabXFnExactDiagramCountx0
import Derived.Test.YthphgkhmeobadabXFnExactDiagramCountx4
import Derived.Test.YthphgkhmeobadabXFnExactDiagramCountx5
namespace Go.Proofs.Ythphgkhmeobadab.XFnExactDiagramCount
open Go.RowKit Go.Proofs.YthphgkhmeobadabW.PrintWords Go.Proofs.YthphgkhmeobadabW.PrintLast Go.Proofs.YthphgkhmeobadabW.PrintMore
attribute [local go_sem] max2_int min2_int max_two min_two max_three min_three max_four min_four   -- for this text's walks alone
set_option linter.unusedVariables false
set_option linter.unusedSimpArgs false

/-! ### impl_Diagram_isPlace: function 28 -/
def impl_Diagram_isPlace.f (a0_0 : Int) (l0_1 : List (S85)) (a1 : Int) : Option (Bool) := (impl_in.f a1 0 (wrap64 ((l0_1.length : Int) + 1))).bind fun t149 => (some t149)
set_option maxHeartbeats 8000000 in
set_option maxRecDepth 100000 in
theorem impl_Diagram_isPlace.calls (a0_0 : Int) (A0_1 : Option Addr) (c0_1 : Nat) (l0_1 : List (S85)) (a1 : Int) (r : Bool) (w : World) (hr0_1 : Kd.C k85 w A0_1 l0_1.length l0_1) (hc0_1 : l0_1.length ≤ c0_1) (h : impl_Diagram_isPlace.f a0_0 l0_1 a1 = some r) :
    Calls Try.prog 28 #[.agg #[.int .i64 a0_0, .slice A0_1 l0_1.length c0_1], .int .i64 a1] w fun e w' => e = .returned (.bool r) ∧ Below w.heap.size w w' := by
  have hu29 := Try.underlying29
  have HR0_1 := Aside0.mk hr0_1
  have HC0_1 := Aside0.mk hc0_1
  clear hr0_1 hc0_1
  have HB := Aside0.mk (Below.refl w.heap.size w)
  have H : ((impl_in.f a1 0 (wrap64 ((l0_1.length : Int) + 1))).bind fun t149 => (some t149)) = some r := h
  clear h
  replace H := Option.bind_eq_some_iff.mp H
  obtain ⟨t149, A30, H⟩ := H
  replace H : (some t149) = some r := H
  have A3 := Aside0.mk A30
  clear A30
  obtain rfl := Option.some.inj H
  go_enter Try.func28, Try.ntmps28
  go_wp2_with (first | ((with_reducible refine gate_dst (N := 2) rfl ?_); refine box_event ?hg (N := 2) ?hd (cs := #[.int .i64 a0_0, .slice A0_1 l0_1.length c0_1]) (t := 29) ?hr ?_; (case hd => rfl); (case hg => rfl); (case hr => first | (go_simp; done) | (go_simp; rfl)); intro gb148 hg w4 hbox hb; have n0_ := Aside0.mk (below_step (by repeat (first | (with_reducible first | exact HB.out | apply below_alloc | apply pw_below_drewN | apply below_drew1) | exact HB.out)) hb); have n1_ := Aside0.mk (hbox); have n2_ := Aside0.mk ((by rw [hg]; exact (below_size (by repeat (first | (with_reducible first | exact HB.out | apply below_alloc | apply pw_below_drewN | apply below_drew1) | exact HB.out))) : w.heap.size ≤ gb148)); have n3_ := Aside0.mk ((by rw [hg]; exact (below_size (by repeat (first | (with_reducible first | exact HB.out | apply below_alloc | apply pw_below_drewN | apply below_drew1) | exact HB.out))) : w.heap.size ≤ gb148)); clear HB; have HB := n0_; have BK148 := n1_; have GW148 := n2_; have GE148 := n3_; clear n0_ n1_ n2_ n3_; clear hb hbox hg; have hcz5_0 : w4.cell? ⟨gb148, 0, none⟩ = some (.int .i64 a0_0) := (blk_cell BK148.out 0).trans rfl; have hcz5_1 : w4.cell? ⟨gb148, 1, none⟩ = some (.slice A0_1 l0_1.length c0_1) := (blk_cell BK148.out 1).trans rfl; have hfz5_0 := blk_frozen BK148.out 0; have hfz5_1 := blk_frozen BK148.out 1) | ((with_reducible refine gate_callee (f := 47) rfl ?_); refine goesL_ (some 10) rfl rfl Try.func47 (by kernel_rfl) rfl #[.int .i64 a1, .int .i64 0, .int .i64 (wrap64 ((l0_1.length : Int) + 1))] rfl (by (try simp only [List.map_toArray, List.map_cons, List.map_nil]); first | done | rfl | (simp only [List.length_drop, List.length_take]; rfl)) ?_; (with_reducible refine (impl_in.calls a1 0 (wrap64 ((l0_1.length : Int) + 1)) t149 _ A3.out).mono ?_); rintro e w' ⟨rfl, ⟨nd, rfl⟩⟩; refine ⟨_, rfl, ?_⟩))
  go_ret
  exact ⟨by first | rfl | (simp [errW_none, errW_some] <;> rfl) | (simp [*, errW_none, errW_some] <;> rfl), by repeat (first | (with_reducible first | exact HB.out | apply below_alloc | apply pw_below_drewN | apply below_drew1 | refine below_set ?_ GE148.out) | exact HB.out)⟩

/-! ### impl_Diagram_count_1: function 64 (by hand) -/
open Region in
theorem impl_Diagram_count_1.goesC_ {P : Program} {ops : Array Oper} {Q : Exit → Act → World → Prop} {oi : Oper} {N : Option Tmp} {a : Act} {w : World} {K : Act → World → Prop} {f : FuncId} {fn : Func} {c : Operand} {as_ : Array Operand} {ts : Array TypeId} (hf : P.funcs[f]? = some fn) (hname : (fn.name == "runtime.NumGoroutine") = false) (hb : fn.body.isSome = true) (args caps all_ : Array Value) (hall : args ++ caps = all_)
    (hw : Region.wanted oi (yielded ops a.tmps) = true) (hN : oi.dst = N) (hop : oi.op = .call { callee := .value c, args := as_, argTypes := ts }) (hc : a.eval c = .func (.func f) #[] caps) (hargs : as_.map a.eval = args)
    (h : Calls P f all_ w fun e w' => ∃ v, e = .returned v ∧ K (a.put N v) w') : if Region.wanted oi (yielded ops a.tmps) = true then Oper.wp P oi a w K Q else K (a.put N undef) w := by
  subst hall
  refine call_ f (args ++ caps) hw hN ?_ h
  have he := enters_ hf hname hb (args ++ caps) w
  unfold execOp
  simp [hop, resolve, Deferred.ofValue, invoke, hc, hargs, he]

def impl_Diagram_count_1.T7 : Bool × List (List Nat × List Nat) := (true, [([], []), ([], []), ([], []), ([], []), ([3], [3]), ([2, 4], [2, 4]), ([], []), ([], []), ([7], [7]), ([6, 8, 5], [6, 8]), ([5, 9], [5, 9]), ([10], [10]), ([0, 1, 11, 9, 0, 1, 2, 3, 4, 5, 6, 7, 8, 9, 10, 11], [0, 1, 11])])
def impl_Diagram_count_1.B7 : List Nat := [0, 0, 0, 0, 8, 28, 0, 0, 128, 508, 1020, 2044, 4095]
theorem impl_Diagram_count_1.tab7 : rtab .any (opsOf Try.f64 7) = impl_Diagram_count_1.T7 := by kernel_rfl
theorem impl_Diagram_count_1.bits7 : waitsOk impl_Diagram_count_1.T7.2 impl_Diagram_count_1.B7 = true := by kernel_rfl
def impl_Diagram_count_1.key : Go.Proofs.YthphgkhmeobadabX.KeyK Try.prog 3 (Value.int .i64) where
  law := Go.Maps.int_keyed Try.underlying3
  good n := (Lit.int .i64 n).wf = true
  read n h := ⟨_, Go.Maps.keyOf_int_mk Try.underlying3 h⟩
  inj h := by injection h
def impl_Diagram_count_1.elem : Go.Proofs.YthphgkhmeobadabX.ElemK Try.prog 3 (Value.int .i64) (0 : Int) := Go.Proofs.YthphgkhmeobadabX.elemInt Try.underlying3 (fun w => by kernel_rfl)
def impl_Diagram_count_1.T : Nat → Nat
  | 0 => 0
  | m + 1 => impl_Diagram_count_1.T m + impl_Diagram_count_1.T m + 1
theorem impl_Diagram_count_1.wf_small {x : Int} (h0 : -1000000 ≤ x) (h1 : x ≤ 1000000) : (Lit.int .i64 x).wf = true := by
  have e1 : IntKind.i64.min = -9223372036854775808 := by decide
  have e2 : IntKind.i64.max = 9223372036854775807 := by decide
  simp only [Lit.wf, e1, e2, Bool.and_eq_true, decide_eq_true_eq]
  omega
theorem impl_Diagram_count_1.shl_w (n V : Int) : shl .i64 n V = wrap64 (n * 2 ^ min V.toNat 64) := by
  unfold shl
  rw [i64_w]
  rfl
/-- What a count is asked to be, at a diagram. -/
structure impl_Diagram_count_1.Law (V : Int) (l : List S85) (C : Int → Int) (dep : Int → Nat) : Prop where
  v0 : 0 ≤ V
  len : l.length ≤ 2000
  lo : ∀ n, n < 2 → C n = shl .i64 n V
  hi : ∀ x : Int, 0 ≤ x → x < l.length → C (x + 2) = wrap64 (Int.tdiv (wrap64 (C ((rd_T85 l x).f1) + C ((rd_T85 l x).f2))) 2)
  wf : ∀ n, (Lit.int .i64 (C n)).wf = true
  low : ∀ x : Int, 0 ≤ x → x < l.length → 0 ≤ ((rd_T85 l x).f1) ∧ ((rd_T85 l x).f1) < x + 2 ∧ 0 ≤ ((rd_T85 l x).f2) ∧ ((rd_T85 l x).f2) < x + 2
  dep : ∀ x : Int, 0 ≤ x → x < l.length → dep ((rd_T85 l x).f1) < dep (x + 2) ∧ dep ((rd_T85 l x).f2) < dep (x + 2)
set_option maxHeartbeats 40000000 in
set_option maxRecDepth 100000 in
theorem impl_Diagram_count_1.calls_lo (V : Int) (l : List S85) (A0 : Option Addr) (c0 : Nat) (C : Int → Int) (dep : Int → Nat) (gd gm gf bm : Nat) (w0 : World) (hL : impl_Diagram_count_1.Law V l C dep) (hr : Kd.C k85 w0 A0 l.length l) (hbm : w0.heap.size ≤ bm) (n : Int) (m : Nat) (F : Int → Option Int) (cnt : Nat) (w : World) (hb : Below w0.heap.size w0 w) (hd : w.heap[gd]? = some (.cells #[.int .i64 V, .slice A0 l.length c0] 29 (0, 0))) (hm : w.heap[gm]? = some (.cells #[.map (some bm)] 90 (0, 0))) (hf : w.heap[gf]? = some (.cells #[.func (.func 64) #[] #[.pointer (some ⟨gd, 0, none⟩), .pointer (some ⟨gm, 0, none⟩), .pointer (some ⟨gf, 0, none⟩)]] 56 (0, 0))) (hM : Go.Proofs.YthphgkhmeobadabX.MapF impl_Diagram_count_1.key impl_Diagram_count_1.elem w bm cnt F) (hF : ∀ x v, F x = some v → v = C x) (hn : n < 2) :
    Calls Try.prog 64 #[.int .i64 n, .pointer (some ⟨gd, 0, none⟩), .pointer (some ⟨gm, 0, none⟩), .pointer (some ⟨gf, 0, none⟩)] w fun e w' => e = .returned (.int .i64 (C n)) ∧ ∃ F' : Int → Option Int, Go.Proofs.YthphgkhmeobadabX.MapF impl_Diagram_count_1.key impl_Diagram_count_1.elem w' bm (cnt + impl_Diagram_count_1.T m) F' ∧ (∀ x v, F' x = some v → v = C x) ∧ w.grownBy w' (some bm) := by
  have HB := Aside0.mk hb
  have BKD := Aside0.mk hd
  have BKM := Aside0.mk hm
  have BKC := Aside0.mk hf
  have HM := Aside0.mk hM
  have HF := Aside0.mk hF
  have HR := Aside0.mk hr
  have HL := Aside0.mk hL
  clear hb hd hm hf hM hF hr hL
  have hu := Try.underlying29
  have k0_ : decide (n < 2) = true := decide_eq_true hn
  have hv0 := HL.out.v0
  have hcd0 : w.cell? ⟨gd, 0, none⟩ = some (.int .i64 V) := (blk_cell BKD.out 0).trans rfl
  go_enter Try.func64, Try.ntmps64
  go_wp2
  go_ret
  exact ⟨congrArg (fun q => Ending.returned (Value.int .i64 q)) ((HL.out.lo n hn).trans (impl_Diagram_count_1.shl_w n V)).symm, F, HM.out.mono (Nat.le_add_right _ _), HF.out, grown_of_below (Below.refl _ _) _⟩
set_option maxHeartbeats 40000000 in
set_option maxRecDepth 100000 in
theorem impl_Diagram_count_1.calls_hit (V : Int) (l : List S85) (A0 : Option Addr) (c0 : Nat) (C : Int → Int) (dep : Int → Nat) (gd gm gf bm : Nat) (w0 : World) (hL : impl_Diagram_count_1.Law V l C dep) (hr : Kd.C k85 w0 A0 l.length l) (hbm : w0.heap.size ≤ bm) (n : Int) (m : Nat) (F : Int → Option Int) (cnt : Nat) (w : World) (hb : Below w0.heap.size w0 w) (hd : w.heap[gd]? = some (.cells #[.int .i64 V, .slice A0 l.length c0] 29 (0, 0))) (hm : w.heap[gm]? = some (.cells #[.map (some bm)] 90 (0, 0))) (hf : w.heap[gf]? = some (.cells #[.func (.func 64) #[] #[.pointer (some ⟨gd, 0, none⟩), .pointer (some ⟨gm, 0, none⟩), .pointer (some ⟨gf, 0, none⟩)]] 56 (0, 0))) (hM : Go.Proofs.YthphgkhmeobadabX.MapF impl_Diagram_count_1.key impl_Diagram_count_1.elem w bm cnt F) (hF : ∀ x v, F x = some v → v = C x) (hn : ¬ n < 2) (hwn : (Lit.int .i64 n).wf = true) (v : Int) (hs : F n = some v) :
    Calls Try.prog 64 #[.int .i64 n, .pointer (some ⟨gd, 0, none⟩), .pointer (some ⟨gm, 0, none⟩), .pointer (some ⟨gf, 0, none⟩)] w fun e w' => e = .returned (.int .i64 (C n)) ∧ ∃ F' : Int → Option Int, Go.Proofs.YthphgkhmeobadabX.MapF impl_Diagram_count_1.key impl_Diagram_count_1.elem w' bm (cnt + impl_Diagram_count_1.T m) F' ∧ (∀ x v, F' x = some v → v = C x) ∧ w.grownBy w' (some bm) := by
  have HB := Aside0.mk hb
  have BKD := Aside0.mk hd
  have BKM := Aside0.mk hm
  have BKC := Aside0.mk hf
  have HM := Aside0.mk hM
  have HF := Aside0.mk hF
  have HR := Aside0.mk hr
  have HL := Aside0.mk hL
  clear hb hd hm hf hM hF hr hL
  have hu := Try.underlying29
  have HS := Aside0.mk hs
  have k0_ : decide (n < 2) = false := decide_eq_false hn
  have hcm0 : w.cell? ⟨gm, 0, none⟩ = some (.map (some bm)) := (blk_cell BKM.out 0).trans rfl
  clear hs
  go_enter Try.func64, Try.ntmps64
  go_wp2_with (first | (at_lookup; refine Go.Proofs.YthphgkhmeobadabX.wpList_mapF_ok _ rfl (.tmp 16) (.tmp 17) 90 rfl Try.underlying90 HM.out rfl n rfl hwn ?_; rw [HS.out]; simp only [Option.getD_some, Option.getD_none, Option.isSome_some, Option.isSome_none]))
  go_ret
  exact ⟨congrArg (fun q => Ending.returned (Value.int .i64 q)) (HF.out n v HS.out), F, HM.out.mono (Nat.le_add_right _ _), HF.out, grown_of_below (Below.refl _ _) _⟩
set_option maxHeartbeats 40000000 in
set_option maxRecDepth 100000 in
theorem impl_Diagram_count_1.calls_new (V : Int) (l : List S85) (A0 : Option Addr) (c0 : Nat) (C : Int → Int) (dep : Int → Nat) (gd gm gf bm : Nat) (w0 : World) (hL : impl_Diagram_count_1.Law V l C dep) (hr : Kd.C k85 w0 A0 l.length l) (hbm : w0.heap.size ≤ bm) (x : Int) (m : Nat) (F : Int → Option Int) (cnt : Nat) (w : World) (hb : Below w0.heap.size w0 w) (hd : w.heap[gd]? = some (.cells #[.int .i64 V, .slice A0 l.length c0] 29 (0, 0))) (hm : w.heap[gm]? = some (.cells #[.map (some bm)] 90 (0, 0))) (hf : w.heap[gf]? = some (.cells #[.func (.func 64) #[] #[.pointer (some ⟨gd, 0, none⟩), .pointer (some ⟨gm, 0, none⟩), .pointer (some ⟨gf, 0, none⟩)]] 56 (0, 0))) (hM : Go.Proofs.YthphgkhmeobadabX.MapF impl_Diagram_count_1.key impl_Diagram_count_1.elem w bm cnt F) (hF : ∀ x v, F x = some v → v = C x) (hx0 : 0 ≤ x) (hx1 : x < l.length) (hdep : dep (x + 2) ≤ m + 1) (hcnt : cnt + impl_Diagram_count_1.T (m + 1) ≤ 100000) (hs : F (x + 2) = none) (ih : ∀ (n : Int) (F : Int → Option Int) (cnt : Nat) (w : World), dep n ≤ m → 0 ≤ n → n < l.length + 2 → cnt + impl_Diagram_count_1.T m ≤ 100000 → Below w0.heap.size w0 w → w.heap[gd]? = some (.cells #[.int .i64 V, .slice A0 l.length c0] 29 (0, 0)) → w.heap[gm]? = some (.cells #[.map (some bm)] 90 (0, 0)) → w.heap[gf]? = some (.cells #[.func (.func 64) #[] #[.pointer (some ⟨gd, 0, none⟩), .pointer (some ⟨gm, 0, none⟩), .pointer (some ⟨gf, 0, none⟩)]] 56 (0, 0)) → Go.Proofs.YthphgkhmeobadabX.MapF impl_Diagram_count_1.key impl_Diagram_count_1.elem w bm cnt F → (∀ x v, F x = some v → v = C x) → Calls Try.prog 64 #[.int .i64 n, .pointer (some ⟨gd, 0, none⟩), .pointer (some ⟨gm, 0, none⟩), .pointer (some ⟨gf, 0, none⟩)] w fun e w' => e = .returned (.int .i64 (C n)) ∧ ∃ F' : Int → Option Int, Go.Proofs.YthphgkhmeobadabX.MapF impl_Diagram_count_1.key impl_Diagram_count_1.elem w' bm (cnt + impl_Diagram_count_1.T m) F' ∧ (∀ x v, F' x = some v → v = C x) ∧ w.grownBy w' (some bm)) :
    Calls Try.prog 64 #[.int .i64 (x + 2), .pointer (some ⟨gd, 0, none⟩), .pointer (some ⟨gm, 0, none⟩), .pointer (some ⟨gf, 0, none⟩)] w fun e w' => e = .returned (.int .i64 (C (x + 2))) ∧ ∃ F' : Int → Option Int, Go.Proofs.YthphgkhmeobadabX.MapF impl_Diagram_count_1.key impl_Diagram_count_1.elem w' bm (cnt + impl_Diagram_count_1.T (m + 1)) F' ∧ (∀ x v, F' x = some v → v = C x) ∧ w.grownBy w' (some bm) := by
  have HB := Aside0.mk hb
  have BKD := Aside0.mk hd
  have BKM := Aside0.mk hm
  have BKC := Aside0.mk hf
  have HM := Aside0.mk hM
  have HF := Aside0.mk hF
  have HR := Aside0.mk hr
  have HL := Aside0.mk hL
  clear hb hd hm hf hM hF hr hL
  have hu := Try.underlying29
  have HS := Aside0.mk hs
  have IH := Aside0.mk ih
  have HBM := Aside0.mk hbm
  clear hs ih hbm
  have hlen := HL.out.len
  have HX := Aside0.mk (And.intro hx0 hx1)
  have hwn : (Lit.int .i64 (x + 2)).wf = true := impl_Diagram_count_1.wf_small (by omega) (by omega)
  have HWN := Aside0.mk hwn
  have k0_ : decide (x + 2 < 2) = false := decide_eq_false (by omega)
  have k1_ : decide (x < 0) = false := decide_eq_false (by omega)
  have hw1 : wrap64 (x + 2 - 2) = x := by unfold wrap64; omega
  have hw2 : wrap64 x = x := by unfold wrap64; omega
  have hcm0 : w.cell? ⟨gm, 0, none⟩ = some (.map (some bm)) := (blk_cell BKM.out 0).trans rfl
  obtain ⟨ad, e_, ha0, ha1, ha2⟩ := at_T85 HR.out x hx0 hx1
  cases e_
  have hcd1 : w.cell? ⟨gd, 1, none⟩ = some (.slice (some ad) l.length c0) := (blk_cell BKD.out 1).trans rfl
  replace ha0 := (HB.out.cell (World.block_lt_of_cell? w0 _ ha0)).trans ha0
  replace ha1 := (HB.out.cell (World.block_lt_of_cell? w0 _ ha1)).trans ha1
  replace ha2 := (HB.out.cell (World.block_lt_of_cell? w0 _ ha2)).trans ha2
  have p_ := eq_true hx0
  have q_ := eq_true hx1
  have NGD := Aside0.mk (show some gd ≠ some bm from fun e_ => by injection e_ with e_; obtain ⟨es, cl_, hb⟩ := HM.out.block; rw [← e_, BKD.out] at hb; cases hb)
  have NGM := Aside0.mk (show some gm ≠ some bm from fun e_ => by injection e_ with e_; obtain ⟨es, cl_, hb⟩ := HM.out.block; rw [← e_, BKM.out] at hb; cases hb)
  have NGF := Aside0.mk (show some gf ≠ some bm from fun e_ => by injection e_ with e_; obtain ⟨es, cl_, hb⟩ := HM.out.block; rw [← e_, BKC.out] at hb; cases hb)
  go_enter Try.func64, Try.ntmps64
  go_wp2_with (first | (at_lookup; refine Go.Proofs.YthphgkhmeobadabX.wpList_mapF_ok _ rfl (.tmp 16) (.tmp 17) 90 rfl Try.underlying90 HM.out rfl (x + 2) rfl HWN.out ?_; rw [HS.out]; simp only [Option.getD_some, Option.getD_none, Option.isSome_some, Option.isSome_none]) | ((with_reducible refine gate_dst (N := 8) rfl ?_); refine box_event ?hg (N := 8) ?hd (cs := #[.int .i64 0, .int .i64 0, .int .i64 0]) (t := 85) ?hr ?_; (case hd => rfl); (case hg => rfl); (case hr => first | (go_simp; done) | (go_simp; rfl)); intro g8 hg8 w7 hbox hb; have LT := Aside0.mk (show bm < g8 by rw [hg8]; exact HM.out.lt); have NE1 := Aside0.mk (show bm ≠ g8 by have := LT.out; omega); have NE2 := Aside0.mk (show gd ≠ g8 by have := blk_lt BKD.out; omega); have NE3 := Aside0.mk (show gm ≠ g8 by have := blk_lt BKM.out; omega); have NE4 := Aside0.mk (show gf ≠ g8 by have := blk_lt BKC.out; omega); have GE := Aside0.mk (show w.heap.size ≤ g8 by rw [hg8]; exact Nat.le_refl _); have GE0 := Aside0.mk (show w0.heap.size ≤ g8 by have := HBM.out; have := LT.out; omega); have n0_ := Aside0.mk ((hb.block _ (blk_lt BKD.out)).trans BKD.out); have n1_ := Aside0.mk ((hb.block _ (blk_lt BKM.out)).trans BKM.out); have n2_ := Aside0.mk ((hb.block _ (blk_lt BKC.out)).trans BKC.out); have n3_ := Aside0.mk (HM.out.below hb); have HG := Aside0.mk hb; have n4_ := Aside0.mk (below_then HB.out (by have := HBM.out; have := HM.out.lt; omega) hb); clear BKD BKM BKC HM HB; have BKD := n0_; have BKM := n1_; have BKC := n2_; have HM := n3_; have HB := n4_; have BKF := Aside0.mk hbox; clear n0_ n1_ n2_ n3_ n4_ hb hg8; have hcz0 : w7.cell? ⟨g8, 0, none⟩ = some (.int .i64 0) := (blk_cell hbox 0).trans rfl; have hcz1 : w7.cell? ⟨g8, 1, none⟩ = some (.int .i64 0) := (blk_cell hbox 1).trans rfl; have hcz2 : w7.cell? ⟨g8, 2, none⟩ = some (.int .i64 0) := (blk_cell hbox 2).trans rfl; have hfz0 := blk_frozen hbox 0; have hfz1 := blk_frozen hbox 1; have hfz2 := blk_frozen hbox 2; clear hbox))
  generalize hW : ((w7.setCell ⟨g8, 0, none⟩ (.int .i64 ((rd_T85 l x).f0))).setCell ⟨g8, 1, none⟩ (.int .i64 ((rd_T85 l x).f1))).setCell ⟨g8, 2, none⟩ (.int .i64 ((rd_T85 l x).f2)) = wz
  have BKF2 : wz.drew.heap[g8]? = some (.cells #[.int .i64 ((rd_T85 l x).f0), .int .i64 ((rd_T85 l x).f1), .int .i64 ((rd_T85 l x).f2)] 85 (0, 0)) := by
    show wz.heap[g8]? = _
    rw [← hW]
    refine blk_put (cs := #[.int .i64 ((rd_T85 l x).f0), .int .i64 ((rd_T85 l x).f1), .int .i64 0]) ?_ 2 _ rfl
    refine blk_put (cs := #[.int .i64 ((rd_T85 l x).f0), .int .i64 0, .int .i64 0]) ?_ 1 _ rfl
    refine blk_put (cs := #[.int .i64 0, .int .i64 0, .int .i64 0]) ?_ 0 _ rfl
    exact BKF.out
  have BKD2 : wz.drew.heap[gd]? = some (.cells #[.int .i64 V, .slice (some ad) l.length c0] 29 (0, 0)) := by
    show wz.heap[_]? = _
    rw [← hW]
    exact blk_far (blk_far (blk_far BKD.out NE2.out _) NE2.out _) NE2.out _
  have BKM2 : wz.drew.heap[gm]? = some (.cells #[.map (some bm)] 90 (0, 0)) := by
    show wz.heap[_]? = _
    rw [← hW]
    exact blk_far (blk_far (blk_far BKM.out NE3.out _) NE3.out _) NE3.out _
  have BKC2 : wz.drew.heap[gf]? = some (.cells #[.func (.func 64) #[] #[.pointer (some ⟨gd, 0, none⟩), .pointer (some ⟨gm, 0, none⟩), .pointer (some ⟨gf, 0, none⟩)]] 56 (0, 0)) := by
    show wz.heap[_]? = _
    rw [← hW]
    exact blk_far (blk_far (blk_far BKC.out NE4.out _) NE4.out _) NE4.out _
  have HM2 := HM.out.move (w' := wz.drew) (by
    show wz.heap[bm]? = _
    rw [← hW, Below.heap_setCell _ _ _ _ NE1.out, Below.heap_setCell _ _ _ _ NE1.out, Below.heap_setCell _ _ _ _ NE1.out])
  have HB2 : Below w0.heap.size w0 wz.drew := below_drew (by rw [← hW]; exact below_set (below_set (below_set HB.out GE0.out) GE0.out) GE0.out)
  have HG2 : w.grownBy wz.drew (some bm) := grown_of_below (below_drew (by rw [← hW]; exact below_set (below_set (below_set HG.out GE.out) GE.out) GE.out)) _
  have N8 := Aside0.mk (show some g8 ≠ some bm from fun e_ => by injection e_ with e_; exact NE1.out e_.symm)
  clear hW hcz0 hcz1 hcz2 hfz0 hfz1 hfz2 ha0 ha1 ha2 hcm0 hcd1 BKF BKD BKM BKC HM HB HG
  have BKF := Aside0.mk BKF2
  have BKD := Aside0.mk BKD2
  have BKM := Aside0.mk BKM2
  have BKC := Aside0.mk BKC2
  have HM := Aside0.mk HM2
  have HB := Aside0.mk HB2
  have HG := Aside0.mk HG2
  clear BKF2 BKD2 BKM2 BKC2 HM2 HB2 HG2
  refine start_ (n := 13) (S := fun w' => w'.cell? ⟨gm, 0, none⟩ = some (.map (some bm)) ∧ w'.cell? ⟨gf, 0, none⟩ = some (.func (.func 64) #[] #[.pointer (some ⟨gd, 0, none⟩), .pointer (some ⟨gm, 0, none⟩), .pointer (some ⟨gf, 0, none⟩)]) ∧ w'.cell? ⟨g8, 1, none⟩ = some (.int .i64 ((rd_T85 l x).f1)) ∧ w'.cell? ⟨g8, 2, none⟩ = some (.int .i64 ((rd_T85 l x).f2))) (ds := [12]) #[false, false, false, false, false, false, false, false, false, false, false, false, false] (by kernel_rfl) rfl rfl ⟨(blk_cell BKM.out 0).trans rfl, (blk_cell BKC.out 0).trans rfl, (blk_cell BKF.out 1).trans rfl, (blk_cell BKF.out 2).trans rfl⟩ (fun hHeld => ?_)
  refine with_tabW impl_Diagram_count_1.tab7 impl_Diagram_count_1.bits7 (fun HT_ HW_ => ?_)
  generalize wz.drew = wy at BKF BKD BKM BKC HM HB HG hHeld ⊢
  refine pure_ (i := 1) (N := some 30) (v := ?_) (a' := ?_) #[false, true, false, false, false, false, false, false, false, false, false, false, false] rfl rfl (any_of HT_.out (by kernel_rfl)) (fun _ _ _ h => h) (Or.inl ⟨by rfl, ?_⟩) ?_ ?_
  rotate_left
  · intro w'
    go_simp
    with_reducible rfl
  rotate_left
  · simp only [Act.put, List.setIfInBounds_toArray, List.set_cons_zero, List.set_cons_succ, i64_w, i32_w]
    rfl
  refine pure_ (i := 3) (N := some 32) (v := ?_) (a' := ?_) #[false, true, false, true, false, false, false, false, false, false, false, false, false] rfl rfl (any_of HT_.out (by kernel_rfl)) (fun _ _ _ h => h) (Or.inl ⟨by rfl, ?_⟩) ?_ ?_
  rotate_left
  · intro w'
    go_simp
    with_reducible rfl
  rotate_left
  · simp only [Act.put, List.setIfInBounds_toArray, List.set_cons_zero, List.set_cons_succ, i64_w, i32_w]
    rfl
  refine pure_ (i := 7) (N := some 36) (v := ?_) (a' := ?_) #[false, true, false, true, false, false, false, true, false, false, false, false, false] rfl rfl (any_of HT_.out (by kernel_rfl)) (fun _ _ _ h => h) (Or.inl ⟨by rfl, ?_⟩) ?_ ?_
  rotate_left
  · intro w'
    go_simp
    with_reducible rfl
  rotate_left
  · simp only [Act.put, List.setIfInBounds_toArray, List.set_cons_zero, List.set_cons_succ, i64_w, i32_w]
    rfl
  refine take_ (i := 0) (N := some 29) (v := ?_) (a' := ?_) #[true, true, false, true, false, false, false, true, false, false, false, false, false] rfl rfl (take_ofW HT_.out HW_.out (by kernel_rfl)) (fun _ _ _ h => h) (Or.inl ⟨by rfl, ?_⟩) hHeld ?_ ?_
  rotate_left
  · rintro w' ⟨s0, s1, s2, s3⟩
    go_simp
    with_reducible rfl
  rotate_left
  · simp only [Act.put, List.setIfInBounds_toArray, List.set_cons_zero, List.set_cons_succ, i64_w, i32_w]
    rfl
  refine take_ (i := 2) (N := some 31) (v := ?_) (a' := ?_) #[true, true, true, true, false, false, false, true, false, false, false, false, false] rfl rfl (take_ofW HT_.out HW_.out (by kernel_rfl)) (fun _ _ _ h => h) (Or.inl ⟨by rfl, ?_⟩) hHeld ?_ ?_
  rotate_left
  · rintro w' ⟨s0, s1, s2, s3⟩
    go_simp
    with_reducible rfl
  rotate_left
  · simp only [Act.put, List.setIfInBounds_toArray, List.set_cons_zero, List.set_cons_succ, i64_w, i32_w]
    rfl
  refine take_ (i := 4) (N := some 33) (v := ?_) (a' := ?_) #[true, true, true, true, true, false, false, true, false, false, false, false, false] rfl rfl (take_ofW HT_.out HW_.out (by kernel_rfl)) (fun _ _ _ h => h) (Or.inl ⟨by rfl, ?_⟩) hHeld ?_ ?_
  rotate_left
  · rintro w' ⟨s0, s1, s2, s3⟩
    go_simp
    with_reducible rfl
  rotate_left
  · simp only [Act.put, List.setIfInBounds_toArray, List.set_cons_zero, List.set_cons_succ, i64_w, i32_w]
    rfl
  refine take_ (i := 6) (N := some 35) (v := ?_) (a' := ?_) #[true, true, true, true, true, false, true, true, false, false, false, false, false] rfl rfl (take_ofW HT_.out HW_.out (by kernel_rfl)) (fun _ _ _ h => h) (Or.inl ⟨by rfl, ?_⟩) hHeld ?_ ?_
  rotate_left
  · rintro w' ⟨s0, s1, s2, s3⟩
    go_simp
    with_reducible rfl
  rotate_left
  · simp only [Act.put, List.setIfInBounds_toArray, List.set_cons_zero, List.set_cons_succ, i64_w, i32_w]
    rfl
  refine take_ (i := 8) (N := some 37) (v := ?_) (a' := ?_) #[true, true, true, true, true, false, true, true, true, false, false, false, false] rfl rfl (take_ofW HT_.out HW_.out (by kernel_rfl)) (fun _ _ _ h => h) (Or.inl ⟨by rfl, ?_⟩) hHeld ?_ ?_
  rotate_left
  · rintro w' ⟨s0, s1, s2, s3⟩
    go_simp
    with_reducible rfl
  rotate_left
  · simp only [Act.put, List.setIfInBounds_toArray, List.set_cons_zero, List.set_cons_succ, i64_w, i32_w]
    rfl
  refine one_ (i := 5) (N := some 34) #[true, true, true, true, true, true, true, true, true, false, false, false, false] rfl rfl (one_of HT_.out (by kernel_rfl)) (by decide) (fun K hK => ?_)
  refine impl_Diagram_count_1.goesC_ Try.func64 (by kernel_rfl) rfl #[.int .i64 ((rd_T85 l x).f1)] #[.pointer (some ⟨gd, 0, none⟩), .pointer (some ⟨gm, 0, none⟩), .pointer (some ⟨gf, 0, none⟩)] #[.int .i64 ((rd_T85 l x).f1), .pointer (some ⟨gd, 0, none⟩), .pointer (some ⟨gm, 0, none⟩), .pointer (some ⟨gf, 0, none⟩)] rfl (by rfl) rfl rfl (by rfl) (by (try simp only [List.map_toArray, List.map_cons, List.map_nil]); first | done | rfl) ?_
  have hq_ := HL.out.low x HX.out.1 HX.out.2
  have hd_ := HL.out.dep x HX.out.1 HX.out.2
  have hT_ : impl_Diagram_count_1.T (m + 1) = impl_Diagram_count_1.T m + impl_Diagram_count_1.T m + 1 := rfl
  with_reducible refine (IH.out ((rd_T85 l x).f1) F cnt _ (by omega) (by omega) (by omega) (by omega) HB.out BKD.out BKM.out BKC.out HM.out HF.out).mono ?_
  clear hq_ hd_ hT_
  rintro e wn1 ⟨rfl, F1, hm1, hF1, hg1⟩
  refine ⟨_, rfl, ?_⟩
  have n0_ := Aside0.mk ((hg1.block gd (blk_lt BKD.out) NGD.out).trans BKD.out)
  have n1_ := Aside0.mk ((hg1.block gm (blk_lt BKM.out) NGM.out).trans BKM.out)
  have n2_ := Aside0.mk ((hg1.block gf (blk_lt BKC.out) NGF.out).trans BKC.out)
  have n3_ := Aside0.mk ((hg1.block g8 (blk_lt BKF.out) N8.out).trans BKF.out)
  have n4_ := Aside0.mk (HB.out.grown hg1 (by have := HBM.out; have := HM.out.lt; omega) (fun k hk => by injection hk with hk; have := HBM.out; omega))
  have n5_ := Aside0.mk (HG.out.trans hg1)
  clear BKD BKM BKC BKF HB HG HM HF
  have BKD := n0_
  have BKM := n1_
  have BKC := n2_
  have BKF := n3_
  have HB := n4_
  have HG := n5_
  have HM := Aside0.mk hm1
  have HF := Aside0.mk hF1
  clear n0_ n1_ n2_ n3_ n4_ n5_ hm1 hF1 hg1
  refine hK.out _ _ ⟨(blk_cell BKM.out 0).trans rfl, (blk_cell BKC.out 0).trans rfl, (blk_cell BKF.out 1).trans rfl, (blk_cell BKF.out 2).trans rfl⟩ (fun hHeld => ?_)
  clear hK K
  refine norm_ (a' := ?_) ?_ ?_
  rotate_left
  · show Act.put _ (some 34) _ = _
    simp only [Act.put, List.setIfInBounds_toArray, List.set_cons_zero, List.set_cons_succ, i64_w, i32_w]
    rfl
  refine one_ (i := 9) (N := some 38) #[true, true, true, true, true, true, true, true, true, true, false, false, false] rfl rfl (one_of HT_.out (by kernel_rfl)) (by decide) (fun K hK => ?_)
  refine impl_Diagram_count_1.goesC_ Try.func64 (by kernel_rfl) rfl #[.int .i64 ((rd_T85 l x).f2)] #[.pointer (some ⟨gd, 0, none⟩), .pointer (some ⟨gm, 0, none⟩), .pointer (some ⟨gf, 0, none⟩)] #[.int .i64 ((rd_T85 l x).f2), .pointer (some ⟨gd, 0, none⟩), .pointer (some ⟨gm, 0, none⟩), .pointer (some ⟨gf, 0, none⟩)] rfl (by rfl) rfl rfl (by rfl) (by (try simp only [List.map_toArray, List.map_cons, List.map_nil]); first | done | rfl) ?_
  have hq_ := HL.out.low x HX.out.1 HX.out.2
  have hd_ := HL.out.dep x HX.out.1 HX.out.2
  have hT_ : impl_Diagram_count_1.T (m + 1) = impl_Diagram_count_1.T m + impl_Diagram_count_1.T m + 1 := rfl
  with_reducible refine (IH.out ((rd_T85 l x).f2) F1 (cnt + impl_Diagram_count_1.T m) _ (by omega) (by omega) (by omega) (by omega) HB.out BKD.out BKM.out BKC.out HM.out HF.out).mono ?_
  clear hq_ hd_ hT_
  rintro e wn2 ⟨rfl, F2, hm1, hF1, hg1⟩
  refine ⟨_, rfl, ?_⟩
  have n0_ := Aside0.mk ((hg1.block gd (blk_lt BKD.out) NGD.out).trans BKD.out)
  have n1_ := Aside0.mk ((hg1.block gm (blk_lt BKM.out) NGM.out).trans BKM.out)
  have n2_ := Aside0.mk ((hg1.block gf (blk_lt BKC.out) NGF.out).trans BKC.out)
  have n3_ := Aside0.mk ((hg1.block g8 (blk_lt BKF.out) N8.out).trans BKF.out)
  have n4_ := Aside0.mk (HB.out.grown hg1 (by have := HBM.out; have := HM.out.lt; omega) (fun k hk => by injection hk with hk; have := HBM.out; omega))
  have n5_ := Aside0.mk (HG.out.trans hg1)
  clear BKD BKM BKC BKF HB HG HM HF
  have BKD := n0_
  have BKM := n1_
  have BKC := n2_
  have BKF := n3_
  have HB := n4_
  have HG := n5_
  have HM := Aside0.mk hm1
  have HF := Aside0.mk hF1
  clear n0_ n1_ n2_ n3_ n4_ n5_ hm1 hF1 hg1
  refine hK.out _ _ ⟨(blk_cell BKM.out 0).trans rfl, (blk_cell BKC.out 0).trans rfl, (blk_cell BKF.out 1).trans rfl, (blk_cell BKF.out 2).trans rfl⟩ (fun hHeld => ?_)
  clear hK K
  refine norm_ (a' := ?_) ?_ ?_
  rotate_left
  · show Act.put _ (some 38) _ = _
    simp only [Act.put, List.setIfInBounds_toArray, List.set_cons_zero, List.set_cons_succ, i64_w, i32_w]
    rfl
  refine pure_ (i := 10) (N := some 39) (v := ?_) (a' := ?_) #[true, true, true, true, true, true, true, true, true, true, true, false, false] rfl rfl (any_of HT_.out (by kernel_rfl)) (fun _ _ _ h => h) (Or.inl ⟨by rfl, ?_⟩) ?_ ?_
  rotate_left
  · intro w'
    go_simp
    with_reducible rfl
  rotate_left
  · simp only [Act.put, List.setIfInBounds_toArray, List.set_cons_zero, List.set_cons_succ, i64_w, i32_w]
    rfl
  refine pure_ (i := 11) (N := some 40) (v := ?_) (a' := ?_) #[true, true, true, true, true, true, true, true, true, true, true, true, false] rfl rfl (any_of HT_.out (by kernel_rfl)) (fun _ _ _ h => h) (Or.inl ⟨by rfl, ?_⟩) ?_ ?_
  rotate_left
  · intro w'
    go_simp
    with_reducible rfl
  rotate_left
  · simp only [Act.put, List.setIfInBounds_toArray, List.set_cons_zero, List.set_cons_succ, i64_w, i32_w]
    rfl
  refine last_ (i := 12) (N := none) #[true, true, true, true, true, true, true, true, true, true, true, true, true] rfl rfl (one_of HT_.out (by kernel_rfl)) (by decide) (fun K hK => ?_)
  refine Go.Proofs.YthphgkhmeobadabX.mapF_store_step (by rfl) rfl (.tmp 29) (.tmp 30) (.tmp 40) 90 rfl Try.underlying90 HM.out ?hn rfl (x + 2) (C (x + 2)) rfl ?hv HWN.out (HL.out.wf _) ?_
  (case hn => have hT_ : impl_Diagram_count_1.T (m + 1) = impl_Diagram_count_1.T m + impl_Diagram_count_1.T m + 1 := rfl; unfold maxLen; omega)
  (case hv => show Value.int .i64 (wrap64 (Int.tdiv (wrap64 (C ((rd_T85 l x).f1) + C ((rd_T85 l x).f2))) 2)) = Value.int .i64 (C (x + 2)); rw [HL.out.hi x HX.out.1 HX.out.2])
  intro w9 hm9 hg9
  have hm10 := hm9 (fun y => if y = x + 2 then some (C (x + 2)) else F2 y) (if_pos rfl) (fun y _ hy => if_neg hy)
  have n1_ := Aside0.mk ((hg9.block gm (blk_lt BKM.out) NGM.out).trans BKM.out)
  have n5_ := Aside0.mk (HG.out.trans hg9)
  clear BKM HG HM
  have BKM := n1_
  have HG := n5_
  have HM := Aside0.mk hm10
  clear n1_ n5_ hm10 hm9 hg9
  refine hK.out _ _ ?_
  clear hK K
  refine done_ (done_of HT_.out (by kernel_rfl)) ?_
  have hcm9 : w9.cell? ⟨gm, 0, none⟩ = some (.map (some bm)) := (blk_cell BKM.out 0).trans rfl
  go_wp2_with (first | (at_lookup; refine Go.Proofs.YthphgkhmeobadabX.wpList_mapF_look _ rfl (.tmp 41) (.tmp 42) 90 rfl Try.underlying90 HM.out rfl (x + 2) rfl HWN.out ?_; rw [if_pos rfl]; simp only [Option.getD_some]))
  go_ret
  refine ⟨rfl, _, HM.out.mono (by have hT_ : impl_Diagram_count_1.T (m + 1) = impl_Diagram_count_1.T m + impl_Diagram_count_1.T m + 1 := rfl; omega), ?_, HG.out⟩
  intro y v hy
  by_cases e : y = x + 2
  · rw [if_pos e] at hy
    rw [e]
    exact (Option.some.inj hy).symm
  · rw [if_neg e] at hy
    exact HF.out y v hy
theorem impl_Diagram_count_1.calls (V : Int) (l : List S85) (A0 : Option Addr) (c0 : Nat) (C : Int → Int) (dep : Int → Nat) (gd gm gf bm : Nat) (w0 : World) (hL : impl_Diagram_count_1.Law V l C dep) (hr : Kd.C k85 w0 A0 l.length l) (hbm : w0.heap.size ≤ bm) : ∀ (m : Nat) (n : Int) (F : Int → Option Int) (cnt : Nat) (w : World), dep n ≤ m → 0 ≤ n → n < l.length + 2 → cnt + impl_Diagram_count_1.T m ≤ 100000 → Below w0.heap.size w0 w → w.heap[gd]? = some (.cells #[.int .i64 V, .slice A0 l.length c0] 29 (0, 0)) → w.heap[gm]? = some (.cells #[.map (some bm)] 90 (0, 0)) → w.heap[gf]? = some (.cells #[.func (.func 64) #[] #[.pointer (some ⟨gd, 0, none⟩), .pointer (some ⟨gm, 0, none⟩), .pointer (some ⟨gf, 0, none⟩)]] 56 (0, 0)) → Go.Proofs.YthphgkhmeobadabX.MapF impl_Diagram_count_1.key impl_Diagram_count_1.elem w bm cnt F → (∀ x v, F x = some v → v = C x) →
    Calls Try.prog 64 #[.int .i64 n, .pointer (some ⟨gd, 0, none⟩), .pointer (some ⟨gm, 0, none⟩), .pointer (some ⟨gf, 0, none⟩)] w fun e w' => e = .returned (.int .i64 (C n)) ∧ ∃ F' : Int → Option Int, Go.Proofs.YthphgkhmeobadabX.MapF impl_Diagram_count_1.key impl_Diagram_count_1.elem w' bm (cnt + impl_Diagram_count_1.T m) F' ∧ (∀ x v, F' x = some v → v = C x) ∧ w.grownBy w' (some bm) := by
  intro m
  induction m with
  | zero =>
    intro n F cnt w hdep h0 h1 hcnt hb hd hm hf hM hF
    refine impl_Diagram_count_1.calls_lo V l A0 c0 C dep gd gm gf bm w0 hL hr hbm n 0 F cnt w hb hd hm hf hM hF ?_
    apply Decidable.byContradiction
    intro h2
    have := hL.dep (n - 2) (by omega) (by omega)
    rw [show n - 2 + 2 = n by omega] at this
    omega
  | succ m ih =>
    intro n F cnt w hdep h0 h1 hcnt hb hd hm hf hM hF
    by_cases h2 : n < 2
    · exact impl_Diagram_count_1.calls_lo V l A0 c0 C dep gd gm gf bm w0 hL hr hbm n (m + 1) F cnt w hb hd hm hf hM hF h2
    · have hlen := hL.len
      have hwn : (Lit.int .i64 n).wf = true := by
        exact impl_Diagram_count_1.wf_small (by omega) (by omega)
      cases hs : F n with
      | some v => exact impl_Diagram_count_1.calls_hit V l A0 c0 C dep gd gm gf bm w0 hL hr hbm n (m + 1) F cnt w hb hd hm hf hM hF h2 hwn v hs
      | none =>
        obtain ⟨x, rfl⟩ : ∃ x, n = x + 2 := ⟨n - 2, by omega⟩
        exact impl_Diagram_count_1.calls_new V l A0 c0 C dep gd gm gf bm w0 hL hr hbm x m F cnt w hb hd hm hf hM hF (by omega) (by omega) hdep hcnt hs ih


/-! ### impl_Diagram_count: function 29 (by hand) -/
set_option maxHeartbeats 40000000 in
set_option maxRecDepth 100000 in
theorem impl_Diagram_count.calls (V : Int) (l : List S85) (A0 : Option Addr) (c0 : Nat) (C : Int → Int) (dep : Int → Nat) (n : Int) (w : World) (hL : impl_Diagram_count_1.Law V l C dep) (hr : Kd.C k85 w A0 l.length l) (h0 : 0 ≤ n) (h1 : n < l.length + 2) (hd : dep n ≤ 12) :
    Calls Try.prog 29 #[.agg #[.int .i64 V, .slice A0 l.length c0], .int .i64 n] w fun e w' => e = .returned (.int .i64 (C n)) ∧ Below w.heap.size w w' := by
  have HL := Aside0.mk hL
  have HR := Aside0.mk hr
  clear hL hr
  have hmf : ∀ (fn : Fn) (first cap : Array Value) (w : World), (Instr.makeFunc fn first cap).run Try.prog w = .ok (.func fn first cap) w := fun _ _ _ _ => rfl
  have hst : ∀ (fn : Fn) (first cap : Array Value) (a : Addr) (m : Mode) (w : World), (store a (.func fn first cap) m).run Try.prog w = stored Try.prog w a (.func fn first cap) m := fun fn first cap a m w => run_store _ w a _ m rfl
  go_enter Try.func29, Try.ntmps29
  go_upto_region 2 with (first | ((with_reducible refine gate_dst (N := 2) rfl ?_); refine box_event ?hg (N := 2) ?hd (cs := #[.int .i64 V, .slice A0 l.length c0]) (t := 29) ?hr ?_; (case hd => rfl); (case hg => rfl); (case hr => first | (go_simp; done) | (go_simp; rfl)); intro gd hgd w1 hbox hb; have BKD := Aside0.mk hbox; have GD := Aside0.mk (show w.heap.size ≤ gd by omega); have HB := Aside0.mk hb; clear hbox hb hgd) | ((with_reducible refine gate_dst (N := 7) rfl ?_); refine Go.Proofs.YthphgkhmeobadabX.map_event impl_Diagram_count_1.key impl_Diagram_count_1.elem rfl (N := 7) rfl rfl ?_; intro bm hbm w2 hm hb; have HM := Aside0.mk hm; have GM := Aside0.mk (show w.heap.size ≤ bm by rw [hbm]; exact HB.out.size); have n0_ := Aside0.mk ((hb.block _ (blk_lt BKD.out)).trans BKD.out); have n1_ := Aside0.mk (below_step HB.out hb); clear BKD HB; have BKD := n0_; have HB := n1_; clear n0_ n1_ hm hb hbm) | ((with_reducible refine gate_dst (N := 5) rfl ?_); refine box_event ?hg (N := 5) ?hd (cs := #[.map none]) (t := 90) ?hr ?_; (case hd => rfl); (case hg => rfl); (case hr => first | (go_simp; done) | (go_simp; rfl)); intro gm hgm w3 hbox hb; have BKM := Aside0.mk hbox; have N3 := Aside0.mk (show bm ≠ gm by have := HM.out.lt; omega); have N4 := Aside0.mk (show gd ≠ gm by have := blk_lt BKD.out; omega); have GG := Aside0.mk (show w.heap.size ≤ gm by rw [hgm]; exact HB.out.size); have n0_ := Aside0.mk ((hb.block _ (blk_lt BKD.out)).trans BKD.out); have n1_ := Aside0.mk (below_step HB.out hb); have n2_ := Aside0.mk (HM.out.below hb); clear BKD HB HM; have BKD := n0_; have HB := n1_; have HM := n2_; clear n0_ n1_ n2_ hb hgm; have hcm0 : w3.cell? ⟨gm, 0, none⟩ = some (.map none) := (blk_cell hbox 0).trans rfl; have hfm0 := blk_frozen hbox 0; clear hbox))
  (try simp only [Act.put, List.setIfInBounds_toArray, List.set_cons_zero, List.set_cons_succ])
  generalize hW : w3.setCell ⟨gm, 0, none⟩ (.map (some bm)) = w4
  have BKM2 : w4.heap[gm]? = some (.cells #[.map (some bm)] 90 (0, 0)) := by rw [← hW]; exact blk_put (cs := #[.map none]) BKM.out 0 _ rfl
  have BKD2 : w4.heap[gd]? = some (.cells #[.int .i64 V, .slice A0 l.length c0] 29 (0, 0)) := by rw [← hW]; exact blk_far BKD.out N4.out _
  have HM2 := HM.out.move (w' := w4) (by rw [← hW, Below.heap_setCell _ _ _ _ N3.out])
  have HB2 : Below w.heap.size w w4 := by rw [← hW]; exact below_set HB.out GG.out
  clear hW hcm0 hfm0 BKM BKD HM HB
  have BKM := Aside0.mk BKM2
  have BKD := Aside0.mk BKD2
  have HM := Aside0.mk HM2
  have HB := Aside0.mk HB2
  clear BKM2 BKD2 HM2 HB2
  go_upto_region 4 with (first | ((with_reducible refine gate_dst (N := 6) rfl ?_); refine box_event ?hg (N := 6) ?hd (cs := #[.nilFunc]) (t := 56) ?hr ?_; (case hd => rfl); (case hg => rfl); (case hr => first | (go_simp; done) | (go_simp; rfl)); intro gf hgf w5 hbox hb; have BKC := Aside0.mk hbox; have N5 := Aside0.mk (show bm ≠ gf by have := HM.out.lt; omega); have N6 := Aside0.mk (show gd ≠ gf by have := blk_lt BKD.out; omega); have N7 := Aside0.mk (show gm ≠ gf by have := blk_lt BKM.out; omega); have GF := Aside0.mk (show w.heap.size ≤ gf by rw [hgf]; exact HB.out.size); have n0_ := Aside0.mk ((hb.block _ (blk_lt BKD.out)).trans BKD.out); have n1_ := Aside0.mk (below_step HB.out hb); have n2_ := Aside0.mk (HM.out.below hb); have n3_ := Aside0.mk ((hb.block _ (blk_lt BKM.out)).trans BKM.out); clear BKD HB HM BKM; have BKD := n0_; have HB := n1_; have HM := n2_; have BKM := n3_; clear n0_ n1_ n2_ n3_ hb hgf; have hcf0 : w5.cell? ⟨gf, 0, none⟩ = some .nilFunc := (blk_cell hbox 0).trans rfl; have hff0 := blk_frozen hbox 0; clear hbox))
  (try simp only [Act.put, List.setIfInBounds_toArray, List.set_cons_zero, List.set_cons_succ])
  generalize hW : w5.setCell ⟨gf, 0, none⟩ (.func (.func 64) #[] #[.pointer (some ⟨gd, 0, none⟩), .pointer (some ⟨gm, 0, none⟩), .pointer (some ⟨gf, 0, none⟩)]) = w6
  have BKC2 : w6.heap[gf]? = some (.cells #[.func (.func 64) #[] #[.pointer (some ⟨gd, 0, none⟩), .pointer (some ⟨gm, 0, none⟩), .pointer (some ⟨gf, 0, none⟩)]] 56 (0, 0)) := by rw [← hW]; exact blk_put (cs := #[.nilFunc]) BKC.out 0 _ rfl
  have BKD2 : w6.heap[gd]? = some (.cells #[.int .i64 V, .slice A0 l.length c0] 29 (0, 0)) := by rw [← hW]; exact blk_far BKD.out N6.out _
  have BKM2 : w6.heap[gm]? = some (.cells #[.map (some bm)] 90 (0, 0)) := by rw [← hW]; exact blk_far BKM.out N7.out _
  have HM2 := HM.out.move (w' := w6) (by rw [← hW, Below.heap_setCell _ _ _ _ N5.out])
  have HB2 : Below w.heap.size w w6 := by rw [← hW]; exact below_set HB.out GF.out
  clear hW hcf0 hff0 BKC BKM BKD HM HB
  have BKC := Aside0.mk BKC2
  have BKM := Aside0.mk BKM2
  have BKD := Aside0.mk BKD2
  have HM := Aside0.mk HM2
  have HB := Aside0.mk HB2
  clear BKC2 BKM2 BKD2 HM2 HB2
  have hcf1 : w6.cell? ⟨gf, 0, none⟩ = some (.func (.func 64) #[] #[.pointer (some ⟨gd, 0, none⟩), .pointer (some ⟨gm, 0, none⟩), .pointer (some ⟨gf, 0, none⟩)]) := (blk_cell BKC.out 0).trans rfl
  go_wp2_with (first | (go_at_call 64; with_reducible refine (impl_Diagram_count_1.calls V l A0 c0 C dep gd gm gf bm w HL.out HR.out GM.out 12 n _ 0 _ hd h0 h1 (by decide) HB.out BKD.out BKM.out BKC.out HM.out (fun _ _ h => by cases h)).mono ?_; rintro e w9 ⟨rfl, F', hm9, hF9, hg9⟩; have HB9 := Aside0.mk (HB.out.grown hg9 (by have := GM.out; have := HM.out.lt; omega) (fun k hk => by injection hk with hk; have := GM.out; omega)); clear hm9 hF9 hg9))
  go_ret
  exact ⟨rfl, HB9.out⟩

/-! ### impl_DiagramCount: function 9 (by hand) -/
def impl_DiagramCount.cnt (V : Int) (l : List S85) : Nat → Int → Int
  | 0, n => shl .i64 n V
  | m + 1, n => if n < 2 then shl .i64 n V else wrap64 (Int.tdiv (wrap64 (impl_DiagramCount.cnt V l m (rd_T85 l (n - 2)).f1 + impl_DiagramCount.cnt V l m (rd_T85 l (n - 2)).f2)) 2)
def impl_DiagramCount.dep (V : Int) (l : List S85) (n : Int) : Nat := if n < 2 then 0 else (V - (rd_T85 l (n - 2)).f0).toNat
def impl_DiagramCount.okAt (V : Int) (l : List S85) (i : Int) : Bool := decide (0 ≤ (rd_T85 l i).f0 ∧ (rd_T85 l i).f0 < V ∧ 0 ≤ (rd_T85 l i).f1 ∧ (rd_T85 l i).f1 < i + 2 ∧ 0 ≤ (rd_T85 l i).f2 ∧ (rd_T85 l i).f2 < i + 2 ∧ (2 ≤ (rd_T85 l i).f1 → (rd_T85 l i).f0 < (rd_T85 l ((rd_T85 l i).f1 - 2)).f0) ∧ (2 ≤ (rd_T85 l i).f2 → (rd_T85 l i).f0 < (rd_T85 l ((rd_T85 l i).f2 - 2)).f0))
/-- Do a diagram's forks lead downwards, by place and by variable. -/
def impl_DiagramCount.ok (V : Int) (l : List S85) : Bool := decide (0 ≤ V ∧ V ≤ 12 ∧ l.length ≤ 2000) && (List.range l.length).all (fun i => impl_DiagramCount.okAt V l (i : Int))
theorem impl_DiagramCount.ok_at {V : Int} {l : List S85} (h : impl_DiagramCount.ok V l = true) (x : Int) (h0 : 0 ≤ x) (h1 : x < l.length) : 0 ≤ (rd_T85 l x).f0 ∧ (rd_T85 l x).f0 < V ∧ 0 ≤ (rd_T85 l x).f1 ∧ (rd_T85 l x).f1 < x + 2 ∧ 0 ≤ (rd_T85 l x).f2 ∧ (rd_T85 l x).f2 < x + 2 ∧ (2 ≤ (rd_T85 l x).f1 → (rd_T85 l x).f0 < (rd_T85 l ((rd_T85 l x).f1 - 2)).f0) ∧ (2 ≤ (rd_T85 l x).f2 → (rd_T85 l x).f0 < (rd_T85 l ((rd_T85 l x).f2 - 2)).f0) := by
  unfold impl_DiagramCount.ok at h
  have h2 := List.all_eq_true.1 (Bool.and_eq_true_iff.1 h).2 x.toNat (List.mem_range.2 (by omega))
  rw [Int.toNat_of_nonneg h0] at h2
  exact of_decide_eq_true h2
theorem impl_DiagramCount.dep_lt {V : Int} {l : List S85} (h : impl_DiagramCount.ok V l = true) (x : Int) (h0 : 0 ≤ x) (h1 : x < l.length) : impl_DiagramCount.dep V l (rd_T85 l x).f1 < impl_DiagramCount.dep V l (x + 2) ∧ impl_DiagramCount.dep V l (rd_T85 l x).f2 < impl_DiagramCount.dep V l (x + 2) := by
  have q := impl_DiagramCount.ok_at h x h0 h1
  unfold impl_DiagramCount.dep
  rw [if_neg (show ¬ x + 2 < 2 by omega), Int.add_sub_cancel]
  constructor
  · by_cases c : (rd_T85 l x).f1 < 2
    · rw [if_pos c]
      omega
    · rw [if_neg c]
      have := q.2.2.2.2.2.2.1 (by omega)
      omega
  · by_cases c : (rd_T85 l x).f2 < 2
    · rw [if_pos c]
      omega
    · rw [if_neg c]
      have := q.2.2.2.2.2.2.2 (by omega)
      omega
theorem impl_DiagramCount.cnt_more {V : Int} {l : List S85} (h : impl_DiagramCount.ok V l = true) : ∀ (m : Nat) (n : Int), 0 ≤ n → n < l.length + 2 → impl_DiagramCount.dep V l n ≤ m → impl_DiagramCount.cnt V l (m + 1) n = impl_DiagramCount.cnt V l m n := by
  intro m
  induction m with
  | zero =>
    intro n h0 h1 hd
    by_cases c : n < 2
    · simp only [impl_DiagramCount.cnt, if_pos c]
    · have := impl_DiagramCount.dep_lt h (n - 2) (by omega) (by omega)
      rw [show n - 2 + 2 = n by omega] at this
      omega
  | succ m ih =>
    intro n h0 h1 hd
    by_cases c : n < 2
    · simp only [impl_DiagramCount.cnt, if_pos c]
    · have q := impl_DiagramCount.ok_at h (n - 2) (by omega) (by omega)
      have d := impl_DiagramCount.dep_lt h (n - 2) (by omega) (by omega)
      rw [show n - 2 + 2 = n by omega] at d
      rw [impl_DiagramCount.cnt, if_neg c, ih _ q.2.2.1 (by omega) (by omega), ih _ q.2.2.2.2.1 (by omega) (by omega)]
      rw [impl_DiagramCount.cnt, if_neg c]
theorem impl_DiagramCount.law {V : Int} {l : List S85} (h : impl_DiagramCount.ok V l = true) : impl_Diagram_count_1.Law V l (impl_DiagramCount.cnt V l 13) (impl_DiagramCount.dep V l) := by
  have hb : 0 ≤ V ∧ V ≤ 12 ∧ l.length ≤ 2000 := of_decide_eq_true (Bool.and_eq_true_iff.1 h).1
  have wf : ∀ q : Int, (Lit.int .i64 (wrap64 q)).wf = true := by
    intro q
    have e1 : IntKind.i64.min = -9223372036854775808 := by decide
    have e2 : IntKind.i64.max = 9223372036854775807 := by decide
    simp only [Lit.wf, e1, e2, Bool.and_eq_true, decide_eq_true_eq]
    unfold wrap64
    omega
  refine ⟨hb.1, hb.2.2, ?_, ?_, ?_, ?_, impl_DiagramCount.dep_lt h⟩
  · intro n hn
    rw [impl_DiagramCount.cnt, if_pos hn]
  · intro x h0 h1
    have q := impl_DiagramCount.ok_at h x h0 h1
    have d := impl_DiagramCount.dep_lt h x h0 h1
    have t : impl_DiagramCount.dep V l (x + 2) ≤ 12 := by
      unfold impl_DiagramCount.dep
      rw [if_neg (by omega), Int.add_sub_cancel]
      omega
    rw [impl_DiagramCount.cnt, if_neg (by omega), Int.add_sub_cancel, impl_DiagramCount.cnt_more h 12 _ q.2.2.1 (by omega) (by omega), impl_DiagramCount.cnt_more h 12 _ q.2.2.2.2.1 (by omega) (by omega)]
  · intro n
    rw [impl_DiagramCount.cnt]
    split
    · rw [impl_Diagram_count_1.shl_w]
      exact wf _
    · exact wf _
  · intro x h0 h1
    have q := impl_DiagramCount.ok_at h x h0 h1
    exact ⟨q.2.2.1, q.2.2.2.1, q.2.2.2.2.1, q.2.2.2.2.2.1⟩
def impl_DiagramCount.f (a0_0 : Int) (l0_1 : List (S85)) (a1 : Int) : Option (Int) := (impl_DiagramValid.f a0_0 l0_1).bind fun t => if t = true then ((impl_Diagram_isPlace.f a0_0 l0_1 a1).bind fun t1 => if t1 = true then (if impl_DiagramCount.ok a0_0 l0_1 = true ∧ 0 ≤ a1 ∧ a1 < l0_1.length + 2 then some (impl_DiagramCount.cnt a0_0 l0_1 13 a1) else none) else some (-1)) else some (-1)
set_option maxHeartbeats 40000000 in
set_option maxRecDepth 100000 in
theorem impl_DiagramCount.calls_a (a0_0 : Int) (A0_1 : Option Addr) (c0_1 : Nat) (l0_1 : List (S85)) (a1 : Int) (w : World) (hr0_1 : Kd.C k85 w A0_1 l0_1.length l0_1) (hc0_1 : l0_1.length ≤ c0_1) (ht0 : impl_DiagramValid.f a0_0 l0_1 = some false) :
    Calls Try.prog 9 #[.agg #[.int .i64 a0_0, .slice A0_1 l0_1.length c0_1], .int .i64 a1] w fun e w' => e = .returned (.int .i64 (-1)) ∧ Below w.heap.size w w' := by
  have hu := Try.underlying29
  have HR := Aside0.mk hr0_1
  have HC := Aside0.mk hc0_1
  clear hr0_1 hc0_1
  have HT0 := Aside0.mk ht0
  clear ht0
  go_enter Try.func9, Try.ntmps9
  go_wp2_with (first | ((with_reducible refine gate_dst (N := 2) rfl ?_); refine box_event ?hg (N := 2) ?hd (cs := #[.int .i64 a0_0, .slice A0_1 l0_1.length c0_1]) (t := 29) ?hr ?_; (case hd => rfl); (case hg => rfl); (case hr => first | (go_simp; done) | (go_simp; rfl)); intro gd hgd w5 hbox hb; have BKD := Aside0.mk hbox; have HB := Aside0.mk hb; clear hbox hb hgd; have hcd0 := (blk_cell BKD.out 0).trans rfl; have hcd1 := (blk_cell BKD.out 1).trans rfl) | (go_at_call 27; with_reducible refine (impl_DiagramValid.calls a0_0 A0_1 c0_1 l0_1 false _ (Kd.C_below HR.out HB.out) HC.out HT0.out).mono ?_; rintro e wa ⟨rfl, hb⟩; have n0_ := Aside0.mk ((hb.block _ (blk_lt BKD.out)).trans BKD.out); have n2_ := Aside0.mk (below_step HB.out hb); clear BKD HB; have BKD := n0_; have HB := n2_; clear n0_ n2_; have hcd0 := (blk_cell BKD.out 0).trans rfl; have hcd1 := (blk_cell BKD.out 1).trans rfl; clear hb))
  go_ret
  exact ⟨rfl, HB.out⟩
set_option maxHeartbeats 40000000 in
set_option maxRecDepth 100000 in
theorem impl_DiagramCount.calls_b (a0_0 : Int) (A0_1 : Option Addr) (c0_1 : Nat) (l0_1 : List (S85)) (a1 : Int) (w : World) (hr0_1 : Kd.C k85 w A0_1 l0_1.length l0_1) (hc0_1 : l0_1.length ≤ c0_1) (ht0 : impl_DiagramValid.f a0_0 l0_1 = some true) (ht1 : impl_Diagram_isPlace.f a0_0 l0_1 a1 = some false) :
    Calls Try.prog 9 #[.agg #[.int .i64 a0_0, .slice A0_1 l0_1.length c0_1], .int .i64 a1] w fun e w' => e = .returned (.int .i64 (-1)) ∧ Below w.heap.size w w' := by
  have hu := Try.underlying29
  have HR := Aside0.mk hr0_1
  have HC := Aside0.mk hc0_1
  clear hr0_1 hc0_1
  have HT0 := Aside0.mk ht0
  have HT1 := Aside0.mk ht1
  clear ht0 ht1
  go_enter Try.func9, Try.ntmps9
  go_wp2_with (first | ((with_reducible refine gate_dst (N := 2) rfl ?_); refine box_event ?hg (N := 2) ?hd (cs := #[.int .i64 a0_0, .slice A0_1 l0_1.length c0_1]) (t := 29) ?hr ?_; (case hd => rfl); (case hg => rfl); (case hr => first | (go_simp; done) | (go_simp; rfl)); intro gd hgd w5 hbox hb; have BKD := Aside0.mk hbox; have HB := Aside0.mk hb; clear hbox hb hgd; have hcd0 := (blk_cell BKD.out 0).trans rfl; have hcd1 := (blk_cell BKD.out 1).trans rfl) | (go_at_call 27; with_reducible refine (impl_DiagramValid.calls a0_0 A0_1 c0_1 l0_1 true _ (Kd.C_below HR.out HB.out) HC.out HT0.out).mono ?_; rintro e wa ⟨rfl, hb⟩; have n0_ := Aside0.mk ((hb.block _ (blk_lt BKD.out)).trans BKD.out); have n2_ := Aside0.mk (below_step HB.out hb); clear BKD HB; have BKD := n0_; have HB := n2_; clear n0_ n2_; have hcd0 := (blk_cell BKD.out 0).trans rfl; have hcd1 := (blk_cell BKD.out 1).trans rfl; clear hb) | (go_at_call 28; with_reducible refine (impl_Diagram_isPlace.calls a0_0 A0_1 c0_1 l0_1 a1 false _ (Kd.C_below HR.out HB.out) HC.out HT1.out).mono ?_; rintro e wb ⟨rfl, hb'⟩; have hb := (by first | exact hb' | exact hb'.below | exact Drawn0.below hb' : Below _ _ _); have n0_ := Aside0.mk ((hb.block _ (blk_lt BKD.out)).trans BKD.out); have n2_ := Aside0.mk (below_step HB.out hb); clear BKD HB; have BKD := n0_; have HB := n2_; clear n0_ n2_; have hcd0 := (blk_cell BKD.out 0).trans rfl; have hcd1 := (blk_cell BKD.out 1).trans rfl; clear hb hb'))
  go_ret
  exact ⟨rfl, HB.out⟩
set_option maxHeartbeats 40000000 in
set_option maxRecDepth 100000 in
theorem impl_DiagramCount.calls_c (a0_0 : Int) (A0_1 : Option Addr) (c0_1 : Nat) (l0_1 : List (S85)) (a1 : Int) (w : World) (hr0_1 : Kd.C k85 w A0_1 l0_1.length l0_1) (hc0_1 : l0_1.length ≤ c0_1) (ht0 : impl_DiagramValid.f a0_0 l0_1 = some true) (ht1 : impl_Diagram_isPlace.f a0_0 l0_1 a1 = some true) (hok : impl_DiagramCount.ok a0_0 l0_1 = true) (g0 : 0 ≤ a1) (g1 : a1 < l0_1.length + 2) :
    Calls Try.prog 9 #[.agg #[.int .i64 a0_0, .slice A0_1 l0_1.length c0_1], .int .i64 a1] w fun e w' => e = .returned (.int .i64 (impl_DiagramCount.cnt a0_0 l0_1 13 a1)) ∧ Below w.heap.size w w' := by
  have hu := Try.underlying29
  have HR := Aside0.mk hr0_1
  have HC := Aside0.mk hc0_1
  clear hr0_1 hc0_1
  have HT0 := Aside0.mk ht0
  have HT1 := Aside0.mk ht1
  have HLW := Aside0.mk (impl_DiagramCount.law hok)
  have hdep : impl_DiagramCount.dep a0_0 l0_1 a1 ≤ 12 := by
    have hb : 0 ≤ a0_0 ∧ a0_0 ≤ 12 ∧ l0_1.length ≤ 2000 := of_decide_eq_true (Bool.and_eq_true_iff.1 hok).1
    unfold impl_DiagramCount.dep
    split
    · omega
    · have := impl_DiagramCount.ok_at hok (a1 - 2) (by omega) (by omega)
      omega
  have HD := Aside0.mk hdep
  clear ht0 ht1 hdep
  go_enter Try.func9, Try.ntmps9
  go_wp2_with (first | ((with_reducible refine gate_dst (N := 2) rfl ?_); refine box_event ?hg (N := 2) ?hd (cs := #[.int .i64 a0_0, .slice A0_1 l0_1.length c0_1]) (t := 29) ?hr ?_; (case hd => rfl); (case hg => rfl); (case hr => first | (go_simp; done) | (go_simp; rfl)); intro gd hgd w5 hbox hb; have BKD := Aside0.mk hbox; have HB := Aside0.mk hb; clear hbox hb hgd; have hcd0 := (blk_cell BKD.out 0).trans rfl; have hcd1 := (blk_cell BKD.out 1).trans rfl) | (go_at_call 27; with_reducible refine (impl_DiagramValid.calls a0_0 A0_1 c0_1 l0_1 true _ (Kd.C_below HR.out HB.out) HC.out HT0.out).mono ?_; rintro e wa ⟨rfl, hb⟩; have n0_ := Aside0.mk ((hb.block _ (blk_lt BKD.out)).trans BKD.out); have n2_ := Aside0.mk (below_step HB.out hb); clear BKD HB; have BKD := n0_; have HB := n2_; clear n0_ n2_; have hcd0 := (blk_cell BKD.out 0).trans rfl; have hcd1 := (blk_cell BKD.out 1).trans rfl; clear hb) | (go_at_call 28; with_reducible refine (impl_Diagram_isPlace.calls a0_0 A0_1 c0_1 l0_1 a1 true _ (Kd.C_below HR.out HB.out) HC.out HT1.out).mono ?_; rintro e wb ⟨rfl, hb'⟩; have hb := (by first | exact hb' | exact hb'.below | exact Drawn0.below hb' : Below _ _ _); have n0_ := Aside0.mk ((hb.block _ (blk_lt BKD.out)).trans BKD.out); have n2_ := Aside0.mk (below_step HB.out hb); clear BKD HB; have BKD := n0_; have HB := n2_; clear n0_ n2_; have hcd0 := (blk_cell BKD.out 0).trans rfl; have hcd1 := (blk_cell BKD.out 1).trans rfl; clear hb hb') | (go_at_call 29; with_reducible refine (impl_Diagram_count.calls a0_0 l0_1 A0_1 c0_1 (impl_DiagramCount.cnt a0_0 l0_1 13) (impl_DiagramCount.dep a0_0 l0_1) a1 _ HLW.out (Kd.C_below HR.out HB.out) g0 g1 HD.out).mono ?_; rintro e wc ⟨rfl, hb⟩; have n0_ := Aside0.mk ((hb.block _ (blk_lt BKD.out)).trans BKD.out); have n2_ := Aside0.mk (below_step HB.out hb); clear BKD HB; have BKD := n0_; have HB := n2_; clear n0_ n2_; have hcd0 := (blk_cell BKD.out 0).trans rfl; have hcd1 := (blk_cell BKD.out 1).trans rfl; clear hb))
  go_ret
  exact ⟨rfl, HB.out⟩
set_option maxHeartbeats 40000000 in
set_option maxRecDepth 100000 in
theorem impl_DiagramCount.calls (a0_0 : Int) (A0_1 : Option Addr) (c0_1 : Nat) (l0_1 : List (S85)) (a1 : Int) (r : Int) (w : World) (hr0_1 : Kd.C k85 w A0_1 l0_1.length l0_1) (hc0_1 : l0_1.length ≤ c0_1) (h : impl_DiagramCount.f a0_0 l0_1 a1 = some r) :
    Calls Try.prog 9 #[.agg #[.int .i64 a0_0, .slice A0_1 l0_1.length c0_1], .int .i64 a1] w fun e w' => e = .returned (.int .i64 (r)) ∧ Below w.heap.size w w' := by
  unfold impl_DiagramCount.f at h
  obtain ⟨t0, ht0, h⟩ := Option.bind_eq_some_iff.mp h
  cases t0 with
  | false =>
    rw [if_neg (by decide)] at h
    obtain rfl := Option.some.inj h
    exact impl_DiagramCount.calls_a a0_0 A0_1 c0_1 l0_1 a1 w hr0_1 hc0_1 ht0
  | true =>
    rw [if_pos rfl] at h
    obtain ⟨t1, ht1, h⟩ := Option.bind_eq_some_iff.mp h
    cases t1 with
    | false =>
      rw [if_neg (by decide)] at h
      obtain rfl := Option.some.inj h
      exact impl_DiagramCount.calls_b a0_0 A0_1 c0_1 l0_1 a1 w hr0_1 hc0_1 ht0 ht1
    | true =>
      rw [if_pos rfl] at h
      by_cases hg : impl_DiagramCount.ok a0_0 l0_1 = true ∧ 0 ≤ a1 ∧ a1 < l0_1.length + 2
      · rw [if_pos hg] at h
        obtain rfl := Option.some.inj h
        exact impl_DiagramCount.calls_c a0_0 A0_1 c0_1 l0_1 a1 w hr0_1 hc0_1 ht0 ht1 hg.1 hg.2.1 hg.2.2
      · rw [if_neg hg] at h
        cases h


/-! ### laws_eqFork: function 65 -/
def laws_eqFork.f (a0_0 : Int) (a0_1 : Int) (a0_2 : Int) (a1_0 : Int) (a1_1 : Int) (a1_2 : Int) : Option (Bool) := if a0_0 = a1_0 then (if a0_1 = a1_1 then (if a0_2 = a1_2 then (some true) else (some false)) else (some false)) else (some false)
set_option maxHeartbeats 8000000 in
set_option maxRecDepth 100000 in
theorem laws_eqFork.calls (a0_0 : Int) (a0_1 : Int) (a0_2 : Int) (a1_0 : Int) (a1_1 : Int) (a1_2 : Int) (r : Bool) (w : World) (h : laws_eqFork.f a0_0 a0_1 a0_2 a1_0 a1_1 a1_2 = some r) :
    Calls Try.prog 65 #[.agg #[.int .i64 a0_0, .int .i64 a0_1, .int .i64 a0_2], .agg #[.int .i64 a1_0, .int .i64 a1_1, .int .i64 a1_2]] w fun e w' => e = .returned (.bool r) ∧ Below w.heap.size w w' := by
  have hu85 := Try.underlying85
  have HB := Aside0.mk (Below.refl w.heap.size w)
  have H : (if a0_0 = a1_0 then (if a0_1 = a1_1 then (if a0_2 = a1_2 then (some true) else (some false)) else (some false)) else (some false)) = some r := h
  clear h
  by_cases c3 : a0_0 = a1_0
  · rw [if_pos c3] at H
    have c3b0 : (a0_0 == a1_0) = true := beq_iff_eq.mpr c3
    have c3b1 : (a0_0 != a1_0) = false := bne_eq_false_iff_eq.mpr c3
    clear c3
    by_cases c4 : a0_1 = a1_1
    · rw [if_pos c4] at H
      have c4b0 : (a0_1 == a1_1) = true := beq_iff_eq.mpr c4
      have c4b1 : (a0_1 != a1_1) = false := bne_eq_false_iff_eq.mpr c4
      clear c4
      by_cases c5 : a0_2 = a1_2
      · rw [if_pos c5] at H
        have c5b0 : (a0_2 == a1_2) = true := beq_iff_eq.mpr c5
        have c5b1 : (a0_2 != a1_2) = false := bne_eq_false_iff_eq.mpr c5
        clear c5
        obtain rfl := Option.some.inj H
        go_enter Try.func65, Try.ntmps65
        go_wp2_with (first | ((with_reducible refine gate_dst (N := 2) rfl ?_); refine box_event ?hg (N := 2) ?hd (cs := #[.int .i64 a0_0, .int .i64 a0_1, .int .i64 a0_2]) (t := 85) ?hr ?_; (case hd => rfl); (case hg => rfl); (case hr => first | (go_simp; done) | (go_simp; rfl)); intro gb150 hg w6 hbox hb; have n0_ := Aside0.mk (below_step (by repeat (first | (with_reducible first | exact HB.out | apply below_alloc | apply pw_below_drewN | apply below_drew1) | exact HB.out)) hb); have n1_ := Aside0.mk (hbox); have n2_ := Aside0.mk ((by rw [hg]; exact (below_size (by repeat (first | (with_reducible first | exact HB.out | apply below_alloc | apply pw_below_drewN | apply below_drew1) | exact HB.out))) : w.heap.size ≤ gb150)); have n3_ := Aside0.mk ((by rw [hg]; exact (below_size (by repeat (first | (with_reducible first | exact HB.out | apply below_alloc | apply pw_below_drewN | apply below_drew1) | exact HB.out))) : w.heap.size ≤ gb150)); clear HB; have HB := n0_; have BK150 := n1_; have GW150 := n2_; have GE150 := n3_; clear n0_ n1_ n2_ n3_; clear hb hbox hg) | ((with_reducible refine gate_dst (N := 3) rfl ?_); refine box_event ?hg (N := 3) ?hd (cs := #[.int .i64 a1_0, .int .i64 a1_1, .int .i64 a1_2]) (t := 85) ?hr ?_; (case hd => rfl); (case hg => rfl); (case hr => first | (go_simp; done) | (go_simp; rfl)); intro gb151 hg w7 hbox hb; have n0_ := Aside0.mk (blk_below (g := gb150) (o := .cells #[.int .i64 a0_0, .int .i64 a0_1, .int .i64 a0_2] 85 (0, 0)) (by (with_reducible repeat (first | refine blk_drewN ?_ _ | refine blk_drew ?_ | refine blk_alloc ?_ _)); exact BK150.out) hb); have n1_ := Aside0.mk (below_step (by repeat (first | (with_reducible first | exact HB.out | apply below_alloc | apply pw_below_drewN | apply below_drew1 | refine below_set ?_ GE150.out) | exact HB.out)) hb); have n2_ := Aside0.mk (hbox); have n3_ := Aside0.mk ((by rw [hg]; exact (below_size (by repeat (first | (with_reducible first | exact HB.out | apply below_alloc | apply pw_below_drewN | apply below_drew1 | refine below_set ?_ GE150.out) | exact HB.out))) : w.heap.size ≤ gb151)); have n4_ := Aside0.mk ((by rw [hg]; exact (below_size (by repeat (first | (with_reducible first | exact HB.out | apply below_alloc | apply pw_below_drewN | apply below_drew1 | refine below_set ?_ GE150.out) | exact HB.out))) : w.heap.size ≤ gb151)); have n5_ := Aside0.mk ((by rw [hg]; exact Nat.ne_of_lt (blk_lt (g := gb150) (o := .cells #[.int .i64 a0_0, .int .i64 a0_1, .int .i64 a0_2] 85 (0, 0)) (by (with_reducible repeat (first | refine blk_drewN ?_ _ | refine blk_drew ?_ | refine blk_alloc ?_ _)); exact BK150.out)) : gb150 ≠ gb151)); have n6_ := Aside0.mk ((by rw [hg]; exact Nat.ne_of_gt (blk_lt (g := gb150) (o := .cells #[.int .i64 a0_0, .int .i64 a0_1, .int .i64 a0_2] 85 (0, 0)) (by (with_reducible repeat (first | refine blk_drewN ?_ _ | refine blk_drew ?_ | refine blk_alloc ?_ _)); exact BK150.out)) : gb151 ≠ gb150)); clear BK150; clear HB; have BK150 := n0_; have HB := n1_; have BK151 := n2_; have GW151 := n3_; have GE151 := n4_; have NB150_151 := n5_; have NB151_150 := n6_; clear n0_ n1_ n2_ n3_ n4_ n5_ n6_; clear hb hbox hg; have hnb8 := NB150_151.out; have hnc8 := NB151_150.out; have hcz9_0 : w7.cell? ⟨gb150, 0, none⟩ = some (.int .i64 a0_0) := (blk_cell BK150.out 0).trans rfl; have hcz9_1 : w7.cell? ⟨gb150, 1, none⟩ = some (.int .i64 a0_1) := (blk_cell BK150.out 1).trans rfl; have hcz9_2 : w7.cell? ⟨gb150, 2, none⟩ = some (.int .i64 a0_2) := (blk_cell BK150.out 2).trans rfl; have hfz9_0 := blk_frozen BK150.out 0; have hfz9_1 := blk_frozen BK150.out 1; have hfz9_2 := blk_frozen BK150.out 2; have hcz10_0 : w7.cell? ⟨gb151, 0, none⟩ = some (.int .i64 a1_0) := (blk_cell BK151.out 0).trans rfl; have hcz10_1 : w7.cell? ⟨gb151, 1, none⟩ = some (.int .i64 a1_1) := (blk_cell BK151.out 1).trans rfl; have hcz10_2 : w7.cell? ⟨gb151, 2, none⟩ = some (.int .i64 a1_2) := (blk_cell BK151.out 2).trans rfl; have hfz10_0 := blk_frozen BK151.out 0; have hfz10_1 := blk_frozen BK151.out 1; have hfz10_2 := blk_frozen BK151.out 2))
        go_ret
        exact ⟨by first | rfl | (simp [errW_none, errW_some] <;> rfl) | (simp [*, errW_none, errW_some] <;> rfl), by repeat (first | (with_reducible first | exact HB.out | apply below_alloc | apply pw_below_drewN | apply below_drew1 | refine below_set ?_ GE150.out | refine below_set ?_ GE151.out) | exact HB.out)⟩
      · rw [if_neg c5] at H
        have c5b0 : (a0_2 == a1_2) = false := beq_eq_false_iff_ne.mpr c5
        have c5b1 : (a0_2 != a1_2) = true := bne_iff_ne.mpr c5
        obtain rfl := Option.some.inj H
        go_enter Try.func65, Try.ntmps65
        go_wp2_with (first | ((with_reducible refine gate_dst (N := 2) rfl ?_); refine box_event ?hg (N := 2) ?hd (cs := #[.int .i64 a0_0, .int .i64 a0_1, .int .i64 a0_2]) (t := 85) ?hr ?_; (case hd => rfl); (case hg => rfl); (case hr => first | (go_simp; done) | (go_simp; rfl)); intro gb150 hg w11 hbox hb; have n0_ := Aside0.mk (below_step (by repeat (first | (with_reducible first | exact HB.out | apply below_alloc | apply pw_below_drewN | apply below_drew1) | exact HB.out)) hb); have n1_ := Aside0.mk (hbox); have n2_ := Aside0.mk ((by rw [hg]; exact (below_size (by repeat (first | (with_reducible first | exact HB.out | apply below_alloc | apply pw_below_drewN | apply below_drew1) | exact HB.out))) : w.heap.size ≤ gb150)); have n3_ := Aside0.mk ((by rw [hg]; exact (below_size (by repeat (first | (with_reducible first | exact HB.out | apply below_alloc | apply pw_below_drewN | apply below_drew1) | exact HB.out))) : w.heap.size ≤ gb150)); clear HB; have HB := n0_; have BK150 := n1_; have GW150 := n2_; have GE150 := n3_; clear n0_ n1_ n2_ n3_; clear hb hbox hg) | ((with_reducible refine gate_dst (N := 3) rfl ?_); refine box_event ?hg (N := 3) ?hd (cs := #[.int .i64 a1_0, .int .i64 a1_1, .int .i64 a1_2]) (t := 85) ?hr ?_; (case hd => rfl); (case hg => rfl); (case hr => first | (go_simp; done) | (go_simp; rfl)); intro gb151 hg w12 hbox hb; have n0_ := Aside0.mk (blk_below (g := gb150) (o := .cells #[.int .i64 a0_0, .int .i64 a0_1, .int .i64 a0_2] 85 (0, 0)) (by (with_reducible repeat (first | refine blk_drewN ?_ _ | refine blk_drew ?_ | refine blk_alloc ?_ _)); exact BK150.out) hb); have n1_ := Aside0.mk (below_step (by repeat (first | (with_reducible first | exact HB.out | apply below_alloc | apply pw_below_drewN | apply below_drew1 | refine below_set ?_ GE150.out) | exact HB.out)) hb); have n2_ := Aside0.mk (hbox); have n3_ := Aside0.mk ((by rw [hg]; exact (below_size (by repeat (first | (with_reducible first | exact HB.out | apply below_alloc | apply pw_below_drewN | apply below_drew1 | refine below_set ?_ GE150.out) | exact HB.out))) : w.heap.size ≤ gb151)); have n4_ := Aside0.mk ((by rw [hg]; exact (below_size (by repeat (first | (with_reducible first | exact HB.out | apply below_alloc | apply pw_below_drewN | apply below_drew1 | refine below_set ?_ GE150.out) | exact HB.out))) : w.heap.size ≤ gb151)); have n5_ := Aside0.mk ((by rw [hg]; exact Nat.ne_of_lt (blk_lt (g := gb150) (o := .cells #[.int .i64 a0_0, .int .i64 a0_1, .int .i64 a0_2] 85 (0, 0)) (by (with_reducible repeat (first | refine blk_drewN ?_ _ | refine blk_drew ?_ | refine blk_alloc ?_ _)); exact BK150.out)) : gb150 ≠ gb151)); have n6_ := Aside0.mk ((by rw [hg]; exact Nat.ne_of_gt (blk_lt (g := gb150) (o := .cells #[.int .i64 a0_0, .int .i64 a0_1, .int .i64 a0_2] 85 (0, 0)) (by (with_reducible repeat (first | refine blk_drewN ?_ _ | refine blk_drew ?_ | refine blk_alloc ?_ _)); exact BK150.out)) : gb151 ≠ gb150)); clear BK150; clear HB; have BK150 := n0_; have HB := n1_; have BK151 := n2_; have GW151 := n3_; have GE151 := n4_; have NB150_151 := n5_; have NB151_150 := n6_; clear n0_ n1_ n2_ n3_ n4_ n5_ n6_; clear hb hbox hg; have hnb13 := NB150_151.out; have hnc13 := NB151_150.out; have hcz14_0 : w12.cell? ⟨gb150, 0, none⟩ = some (.int .i64 a0_0) := (blk_cell BK150.out 0).trans rfl; have hcz14_1 : w12.cell? ⟨gb150, 1, none⟩ = some (.int .i64 a0_1) := (blk_cell BK150.out 1).trans rfl; have hcz14_2 : w12.cell? ⟨gb150, 2, none⟩ = some (.int .i64 a0_2) := (blk_cell BK150.out 2).trans rfl; have hfz14_0 := blk_frozen BK150.out 0; have hfz14_1 := blk_frozen BK150.out 1; have hfz14_2 := blk_frozen BK150.out 2; have hcz15_0 : w12.cell? ⟨gb151, 0, none⟩ = some (.int .i64 a1_0) := (blk_cell BK151.out 0).trans rfl; have hcz15_1 : w12.cell? ⟨gb151, 1, none⟩ = some (.int .i64 a1_1) := (blk_cell BK151.out 1).trans rfl; have hcz15_2 : w12.cell? ⟨gb151, 2, none⟩ = some (.int .i64 a1_2) := (blk_cell BK151.out 2).trans rfl; have hfz15_0 := blk_frozen BK151.out 0; have hfz15_1 := blk_frozen BK151.out 1; have hfz15_2 := blk_frozen BK151.out 2))
        go_ret
        exact ⟨by first | rfl | (simp [errW_none, errW_some] <;> rfl) | (simp [*, errW_none, errW_some] <;> rfl), by repeat (first | (with_reducible first | exact HB.out | apply below_alloc | apply pw_below_drewN | apply below_drew1 | refine below_set ?_ GE150.out | refine below_set ?_ GE151.out) | exact HB.out)⟩
    · rw [if_neg c4] at H
      have c4b0 : (a0_1 == a1_1) = false := beq_eq_false_iff_ne.mpr c4
      have c4b1 : (a0_1 != a1_1) = true := bne_iff_ne.mpr c4
      obtain rfl := Option.some.inj H
      go_enter Try.func65, Try.ntmps65
      go_wp2_with (first | ((with_reducible refine gate_dst (N := 2) rfl ?_); refine box_event ?hg (N := 2) ?hd (cs := #[.int .i64 a0_0, .int .i64 a0_1, .int .i64 a0_2]) (t := 85) ?hr ?_; (case hd => rfl); (case hg => rfl); (case hr => first | (go_simp; done) | (go_simp; rfl)); intro gb150 hg w16 hbox hb; have n0_ := Aside0.mk (below_step (by repeat (first | (with_reducible first | exact HB.out | apply below_alloc | apply pw_below_drewN | apply below_drew1) | exact HB.out)) hb); have n1_ := Aside0.mk (hbox); have n2_ := Aside0.mk ((by rw [hg]; exact (below_size (by repeat (first | (with_reducible first | exact HB.out | apply below_alloc | apply pw_below_drewN | apply below_drew1) | exact HB.out))) : w.heap.size ≤ gb150)); have n3_ := Aside0.mk ((by rw [hg]; exact (below_size (by repeat (first | (with_reducible first | exact HB.out | apply below_alloc | apply pw_below_drewN | apply below_drew1) | exact HB.out))) : w.heap.size ≤ gb150)); clear HB; have HB := n0_; have BK150 := n1_; have GW150 := n2_; have GE150 := n3_; clear n0_ n1_ n2_ n3_; clear hb hbox hg) | ((with_reducible refine gate_dst (N := 3) rfl ?_); refine box_event ?hg (N := 3) ?hd (cs := #[.int .i64 a1_0, .int .i64 a1_1, .int .i64 a1_2]) (t := 85) ?hr ?_; (case hd => rfl); (case hg => rfl); (case hr => first | (go_simp; done) | (go_simp; rfl)); intro gb151 hg w17 hbox hb; have n0_ := Aside0.mk (blk_below (g := gb150) (o := .cells #[.int .i64 a0_0, .int .i64 a0_1, .int .i64 a0_2] 85 (0, 0)) (by (with_reducible repeat (first | refine blk_drewN ?_ _ | refine blk_drew ?_ | refine blk_alloc ?_ _)); exact BK150.out) hb); have n1_ := Aside0.mk (below_step (by repeat (first | (with_reducible first | exact HB.out | apply below_alloc | apply pw_below_drewN | apply below_drew1 | refine below_set ?_ GE150.out) | exact HB.out)) hb); have n2_ := Aside0.mk (hbox); have n3_ := Aside0.mk ((by rw [hg]; exact (below_size (by repeat (first | (with_reducible first | exact HB.out | apply below_alloc | apply pw_below_drewN | apply below_drew1 | refine below_set ?_ GE150.out) | exact HB.out))) : w.heap.size ≤ gb151)); have n4_ := Aside0.mk ((by rw [hg]; exact (below_size (by repeat (first | (with_reducible first | exact HB.out | apply below_alloc | apply pw_below_drewN | apply below_drew1 | refine below_set ?_ GE150.out) | exact HB.out))) : w.heap.size ≤ gb151)); have n5_ := Aside0.mk ((by rw [hg]; exact Nat.ne_of_lt (blk_lt (g := gb150) (o := .cells #[.int .i64 a0_0, .int .i64 a0_1, .int .i64 a0_2] 85 (0, 0)) (by (with_reducible repeat (first | refine blk_drewN ?_ _ | refine blk_drew ?_ | refine blk_alloc ?_ _)); exact BK150.out)) : gb150 ≠ gb151)); have n6_ := Aside0.mk ((by rw [hg]; exact Nat.ne_of_gt (blk_lt (g := gb150) (o := .cells #[.int .i64 a0_0, .int .i64 a0_1, .int .i64 a0_2] 85 (0, 0)) (by (with_reducible repeat (first | refine blk_drewN ?_ _ | refine blk_drew ?_ | refine blk_alloc ?_ _)); exact BK150.out)) : gb151 ≠ gb150)); clear BK150; clear HB; have BK150 := n0_; have HB := n1_; have BK151 := n2_; have GW151 := n3_; have GE151 := n4_; have NB150_151 := n5_; have NB151_150 := n6_; clear n0_ n1_ n2_ n3_ n4_ n5_ n6_; clear hb hbox hg; have hnb18 := NB150_151.out; have hnc18 := NB151_150.out; have hcz19_0 : w17.cell? ⟨gb150, 0, none⟩ = some (.int .i64 a0_0) := (blk_cell BK150.out 0).trans rfl; have hcz19_1 : w17.cell? ⟨gb150, 1, none⟩ = some (.int .i64 a0_1) := (blk_cell BK150.out 1).trans rfl; have hcz19_2 : w17.cell? ⟨gb150, 2, none⟩ = some (.int .i64 a0_2) := (blk_cell BK150.out 2).trans rfl; have hfz19_0 := blk_frozen BK150.out 0; have hfz19_1 := blk_frozen BK150.out 1; have hfz19_2 := blk_frozen BK150.out 2; have hcz20_0 : w17.cell? ⟨gb151, 0, none⟩ = some (.int .i64 a1_0) := (blk_cell BK151.out 0).trans rfl; have hcz20_1 : w17.cell? ⟨gb151, 1, none⟩ = some (.int .i64 a1_1) := (blk_cell BK151.out 1).trans rfl; have hcz20_2 : w17.cell? ⟨gb151, 2, none⟩ = some (.int .i64 a1_2) := (blk_cell BK151.out 2).trans rfl; have hfz20_0 := blk_frozen BK151.out 0; have hfz20_1 := blk_frozen BK151.out 1; have hfz20_2 := blk_frozen BK151.out 2))
      go_ret
      exact ⟨by first | rfl | (simp [errW_none, errW_some] <;> rfl) | (simp [*, errW_none, errW_some] <;> rfl), by repeat (first | (with_reducible first | exact HB.out | apply below_alloc | apply pw_below_drewN | apply below_drew1 | refine below_set ?_ GE150.out | refine below_set ?_ GE151.out) | exact HB.out)⟩
  · rw [if_neg c3] at H
    have c3b0 : (a0_0 == a1_0) = false := beq_eq_false_iff_ne.mpr c3
    have c3b1 : (a0_0 != a1_0) = true := bne_iff_ne.mpr c3
    obtain rfl := Option.some.inj H
    go_enter Try.func65, Try.ntmps65
    go_wp2_with (first | ((with_reducible refine gate_dst (N := 2) rfl ?_); refine box_event ?hg (N := 2) ?hd (cs := #[.int .i64 a0_0, .int .i64 a0_1, .int .i64 a0_2]) (t := 85) ?hr ?_; (case hd => rfl); (case hg => rfl); (case hr => first | (go_simp; done) | (go_simp; rfl)); intro gb150 hg w21 hbox hb; have n0_ := Aside0.mk (below_step (by repeat (first | (with_reducible first | exact HB.out | apply below_alloc | apply pw_below_drewN | apply below_drew1) | exact HB.out)) hb); have n1_ := Aside0.mk (hbox); have n2_ := Aside0.mk ((by rw [hg]; exact (below_size (by repeat (first | (with_reducible first | exact HB.out | apply below_alloc | apply pw_below_drewN | apply below_drew1) | exact HB.out))) : w.heap.size ≤ gb150)); have n3_ := Aside0.mk ((by rw [hg]; exact (below_size (by repeat (first | (with_reducible first | exact HB.out | apply below_alloc | apply pw_below_drewN | apply below_drew1) | exact HB.out))) : w.heap.size ≤ gb150)); clear HB; have HB := n0_; have BK150 := n1_; have GW150 := n2_; have GE150 := n3_; clear n0_ n1_ n2_ n3_; clear hb hbox hg) | ((with_reducible refine gate_dst (N := 3) rfl ?_); refine box_event ?hg (N := 3) ?hd (cs := #[.int .i64 a1_0, .int .i64 a1_1, .int .i64 a1_2]) (t := 85) ?hr ?_; (case hd => rfl); (case hg => rfl); (case hr => first | (go_simp; done) | (go_simp; rfl)); intro gb151 hg w22 hbox hb; have n0_ := Aside0.mk (blk_below (g := gb150) (o := .cells #[.int .i64 a0_0, .int .i64 a0_1, .int .i64 a0_2] 85 (0, 0)) (by (with_reducible repeat (first | refine blk_drewN ?_ _ | refine blk_drew ?_ | refine blk_alloc ?_ _)); exact BK150.out) hb); have n1_ := Aside0.mk (below_step (by repeat (first | (with_reducible first | exact HB.out | apply below_alloc | apply pw_below_drewN | apply below_drew1 | refine below_set ?_ GE150.out) | exact HB.out)) hb); have n2_ := Aside0.mk (hbox); have n3_ := Aside0.mk ((by rw [hg]; exact (below_size (by repeat (first | (with_reducible first | exact HB.out | apply below_alloc | apply pw_below_drewN | apply below_drew1 | refine below_set ?_ GE150.out) | exact HB.out))) : w.heap.size ≤ gb151)); have n4_ := Aside0.mk ((by rw [hg]; exact (below_size (by repeat (first | (with_reducible first | exact HB.out | apply below_alloc | apply pw_below_drewN | apply below_drew1 | refine below_set ?_ GE150.out) | exact HB.out))) : w.heap.size ≤ gb151)); have n5_ := Aside0.mk ((by rw [hg]; exact Nat.ne_of_lt (blk_lt (g := gb150) (o := .cells #[.int .i64 a0_0, .int .i64 a0_1, .int .i64 a0_2] 85 (0, 0)) (by (with_reducible repeat (first | refine blk_drewN ?_ _ | refine blk_drew ?_ | refine blk_alloc ?_ _)); exact BK150.out)) : gb150 ≠ gb151)); have n6_ := Aside0.mk ((by rw [hg]; exact Nat.ne_of_gt (blk_lt (g := gb150) (o := .cells #[.int .i64 a0_0, .int .i64 a0_1, .int .i64 a0_2] 85 (0, 0)) (by (with_reducible repeat (first | refine blk_drewN ?_ _ | refine blk_drew ?_ | refine blk_alloc ?_ _)); exact BK150.out)) : gb151 ≠ gb150)); clear BK150; clear HB; have BK150 := n0_; have HB := n1_; have BK151 := n2_; have GW151 := n3_; have GE151 := n4_; have NB150_151 := n5_; have NB151_150 := n6_; clear n0_ n1_ n2_ n3_ n4_ n5_ n6_; clear hb hbox hg; have hnb23 := NB150_151.out; have hnc23 := NB151_150.out; have hcz24_0 : w22.cell? ⟨gb150, 0, none⟩ = some (.int .i64 a0_0) := (blk_cell BK150.out 0).trans rfl; have hcz24_1 : w22.cell? ⟨gb150, 1, none⟩ = some (.int .i64 a0_1) := (blk_cell BK150.out 1).trans rfl; have hcz24_2 : w22.cell? ⟨gb150, 2, none⟩ = some (.int .i64 a0_2) := (blk_cell BK150.out 2).trans rfl; have hfz24_0 := blk_frozen BK150.out 0; have hfz24_1 := blk_frozen BK150.out 1; have hfz24_2 := blk_frozen BK150.out 2; have hcz25_0 : w22.cell? ⟨gb151, 0, none⟩ = some (.int .i64 a1_0) := (blk_cell BK151.out 0).trans rfl; have hcz25_1 : w22.cell? ⟨gb151, 1, none⟩ = some (.int .i64 a1_1) := (blk_cell BK151.out 1).trans rfl; have hcz25_2 : w22.cell? ⟨gb151, 2, none⟩ = some (.int .i64 a1_2) := (blk_cell BK151.out 2).trans rfl; have hfz25_0 := blk_frozen BK151.out 0; have hfz25_1 := blk_frozen BK151.out 1; have hfz25_2 := blk_frozen BK151.out 2))
    go_ret
    exact ⟨by first | rfl | (simp [errW_none, errW_some] <;> rfl) | (simp [*, errW_none, errW_some] <;> rfl), by repeat (first | (with_reducible first | exact HB.out | apply below_alloc | apply pw_below_drewN | apply below_drew1 | refine below_set ?_ GE150.out | refine below_set ?_ GE151.out) | exact HB.out)⟩

end Go.Proofs.Ythphgkhmeobadab.XFnExactDiagramCount
