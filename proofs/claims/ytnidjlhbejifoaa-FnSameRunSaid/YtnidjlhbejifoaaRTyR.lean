/- What is called by the functions that draw, told over rows of known types: the call ends, and what it hands back is of its type.
Conditions: each theorem's own. -/
import Derived.Test.YtnidjlhbejifoaaRP
namespace Go.Proofs.Ytnidjlhbejifoaa.XFnSameRun
open Go.RowKit Go.Proofs.YtnidjlhbejifoaaW.PrintWords Go.Proofs.YtnidjlhbejifoaaW.PrintLast Go.Proofs.YtnidjlhbejifoaaW.PrintMore Go.Proofs.YtnidjlhbejifoaaX
set_option linter.unusedVariables false
set_option linter.unusedSimpArgs false
theorem info28 : (Try.prog.info? 28).map (fun i => (i.zero, i.size, i.bytes)) = some (some (.slice none 0 0), 1, 24) := by kernel_rfl
theorem info56 : (Try.prog.info? 56).map (fun i => (i.zero, i.size, i.bytes)) = some (some (.slice none 0 0), 1, 24) := by kernel_rfl
theorem info51 : (Try.prog.info? 51).map (fun i => (i.zero, i.size, i.bytes)) = some (some (.agg #[(.int .i64 0), (.int .i64 0), (.int .i64 0)]), 3, 24) := by kernel_rfl
theorem info59 : (Try.prog.info? 59).map (fun i => (i.zero, i.size, i.bytes)) = some (some (.agg #[(.slice none 0 0), (.slice none 0 0), (.slice none 0 0)]), 3, 72) := by kernel_rfl
namespace Ty
section
variable {q q1 q2 : Nat → Prop} {w0 w W W1 : World} {g gb e n c n1 c1 n2 c2 : Nat} {P : Int} {A A1 A2 : Option Addr} {u : Value}
theorem okT_ne (hs : St w0 W g P) : ∀ k, okT W k → k ≠ g := by
 rintro k ⟨cs, e, he, hk⟩ rfl
 exact hs.notT cs e he hk
theorem _root_.Go.Proofs.Ytnidjlhbejifoaa.XFnSameRun.Fr.drawn (HF : Fr w0 w W g P) (h : Drawn0 W W1) : Fr w0 w W1 g P ∧ Mv q w0 g 0 W W1 := by
 obtain ⟨m, rfl⟩ := h.out
 exact ⟨HF.drewN m, Mv.below (pw_below_drewN (Below.refl _ _) m)⟩
theorem _root_.Go.Proofs.Ytnidjlhbejifoaa.XFnSameRun.Fr.belowM (HF : Fr w0 w W g P) (h : Below W.heap.size W W1) : Fr w0 w W1 g P ∧ Mv q w0 g 0 W W1 := ⟨HF.below h, Mv.below h⟩
theorem _root_.Go.Proofs.Ytnidjlhbejifoaa.XFnSameRun.Fr.callM {Q : Int} (HF : Fr w0 w W g P) (hs : St w0 W1 g Q) (hk : KeepBut W W1 g none) : Fr w0 w W1 g Q ∧ Mv q w0 g 0 W W1 := ⟨HF.call hs hk, Mv.keep HF.st hk⟩
theorem _root_.Go.Proofs.Ytnidjlhbejifoaa.XFnSameRun.Ty.Lc.base (h : Lc q w0 W e W1 A n c) (HF : Fr w0 w W g P) : Lc q w0 w e W1 A n c := ⟨h.t, h.e, fun b hb => Nat.le_trans HF.size (h.o b hb)⟩
/-- What a callee told from its own world on. -/
theorem _root_.Go.Proofs.Ytnidjlhbejifoaa.XFnSameRun.Fr.via {Q : Int} (HF : Fr w0 w W g P) (h : Fr w0 W W1 g Q) : Fr w0 w W1 g Q ∧ Mv q w0 g 0 W W1 := HF.callM h.st h.keep
theorem pickT (q : Nat → Prop) (n : Int) (HF : Fr w0 w W g P) (hP : P ≤ 1000000) :
  Calls Try.prog 11 #[.pointer (some ⟨g, 0, none⟩), .int .i64 n] W fun e W1 => ∃ r : Int, e = .returned (.int .i64 r) ∧ 0 ≤ r ∧ (1 ≤ n → r < n) ∧ Fr w0 w W1 g (P + 1) ∧ Mv q w0 g 0 W W1 := by
 refine (pickR n HF.st hP).mono ?_
 rintro e W1 ⟨r, rfl, h0, h1, hs, hk⟩
 obtain ⟨h2, h3⟩ := HF.callM (q := q) hs hk
 exact ⟨r, rfl, h0, h1, h2, h3⟩
theorem Bk.ints {l : List Int} {k : Nat} (hl : l.length = k) (HB : Bk w g 3 W gb (l.map (Value.int .i64)).toArray) (hm : k ≤ 1000) : Kd.C (Kd.int .i64) W (some ⟨gb, 0, none⟩) k l := by
 refine ⟨hl, by omega, fun _ => ⟨_, rfl, fun j p hj => ⟨[.int .i64 p], rfl, rfl, fun i u hu => ?_⟩⟩⟩
 have hi : i = 0 := by have := (List.getElem?_eq_some_iff.1 hu).1; simp at this; omega
 subst hi
 have hs : (Kd.int .i64).sz = 1 := rfl
 rw [Addr.add_lit, hs, Nat.mul_one, Nat.add_zero, Nat.zero_add, HB.cell]
 simp only [List.getElem?_toArray, List.getElem?_map, hj]
 simpa using hu
theorem numT (q : Nat → Prop) (l : List Int) (k : Nat) (hl : l.length = k) (HF : Fr w0 w W g P) (hP : P ≤ 1000000) (h1 : 1 ≤ k) (hm : k ≤ 1000) (HB : Bk w g 3 W gb (l.map (Value.int .i64)).toArray) :
  Calls Try.prog 26 #[.pointer (some ⟨g, 0, none⟩), .slice (some ⟨gb, 0, none⟩) k k] W fun e W1 => ∃ r : Int, e = .returned (.int .i64 r) ∧ r ∈ l ∧ Fr w0 w W1 g (P + 1) ∧ Mv q w0 g 0 W W1 := by
 subst hl
 refine (numR HF.st hP h1 (Bk.ints rfl HB hm) (Nat.le_refl _) (fun ad e _ => ?_)).mono ?_
 ·injection e with e
  subst e
  exact HB.ne
 ·rintro e W1 ⟨r, rfl, h0, hs, hk⟩
  obtain ⟨h2, h3⟩ := HF.callM (q := q) hs hk
  exact ⟨r, rfl, h0, h2, h3⟩
theorem constT (q : Nat → Prop) (a : Int) (HF : Fr w0 w W g P) :
  Calls Try.prog 27 #[.int .i64 a] W fun e W1 => e = .returned (.agg #[.int .i64 0, .int .i64 a, .int .i64 0, .int .i64 0]) ∧ Fr w0 w W1 g P ∧ Mv q w0 g 0 W W1 := by
 refine (spec_l2Const.calls a 0 a 0 0 W rfl).mono ?_
 rintro e W1 ⟨rfl, hb⟩
 exact ⟨rfl, HF.belowM hb⟩
theorem varT (q : Nat → Prop) (a : Int) (HF : Fr w0 w W g P) :
  Calls Try.prog 45 #[.int .i64 a] W fun e W1 => e = .returned (.agg #[.int .i64 1, .int .i64 a, .int .i64 0, .int .i64 0]) ∧ Fr w0 w W1 g P ∧ Mv q w0 g 0 W W1 := by
 refine (spec_l2VarOf.calls a 1 a 0 0 W rfl).mono ?_
 rintro e W1 ⟨rfl, hb⟩
 exact ⟨rfl, HF.belowM hb⟩
theorem oneT (q : Nat → Prop) (a : Int) (HF : Fr w0 w W g P) :
  Calls Try.prog 50 #[.int .i64 a] W fun e W1 => e = .returned (.bool (a == 7)) ∧ Fr w0 w W1 g P ∧ Mv q w0 g 0 W W1 := by
 refine (spec_l1One.calls a (a == 7) W rfl).mono ?_
 rintro e W1 ⟨rfl, hb⟩
 exact ⟨rfl, HF.drawn hb⟩
theorem sameT (q : Nat → Prop) (HF : Fr w0 w W g P) (h1 : T q1 w0.heap.size 3 W A1 n1 c1) (h2 : T q2 w0.heap.size 3 W A2 n2 c2) (hn : n1 ≤ 1000) :
  Calls Try.prog 18 #[.slice A1 n1 c1, .slice A2 n2 c2] W fun e W1 => ∃ b : Bool, e = .returned (.bool b) ∧ Fr w0 w W1 g P ∧ Mv q w0 g 0 W W1 := by
 obtain ⟨x1, rfl, f1⟩ := h1.c3
 obtain ⟨x2, rfl, f2⟩ := h2.c3
 refine (spec_l2Same.calls (x1.length + 1) A1 c1 x1 A2 c2 x2 _ W (Kd.F_now f1) h1.le (Kd.F_now f2) h2.le (l2Same_f (by omega) (by omega))).mono ?_
 rintro e W1 ⟨rfl, hb⟩
 exact ⟨_, rfl, HF.drawn hb⟩
theorem lessT (q : Nat → Prop) (HF : Fr w0 w W g P) (h1 : T q1 w0.heap.size 3 W A1 n1 c1) (h2 : T q2 w0.heap.size 3 W A2 n2 c2) (hn : n1 ≤ 1000) :
  Calls Try.prog 42 #[.slice A1 n1 c1, .slice A2 n2 c2] W fun e W1 => ∃ b : Bool, e = .returned (.bool b) ∧ Fr w0 w W1 g P ∧ Mv q w0 g 0 W W1 := by
 obtain ⟨x1, rfl, f1⟩ := h1.c3
 obtain ⟨x2, rfl, f2⟩ := h2.c3
 obtain ⟨k, r, hr⟩ := l2Less_f (a := x1) (b := x2) (by omega)
 refine (spec_l2Less.calls k A1 c1 x1 A2 c2 x2 r W (Kd.F_now f1) h1.le (Kd.F_now f2) h2.le hr).mono ?_
 rintro e W1 ⟨rfl, hb⟩
 exact ⟨_, rfl, HF.drawn hb⟩
theorem lc3 {v : Value} {xs : List Int} {ok : Nat → Prop} (h : Kd.R (Kd.int .i64) 3 W1 W.heap.size ok v xs) (HF : Fr w0 w W g P) : ∃ A c, v = .slice A xs.length c ∧ Lc q w0 w 3 W1 A xs.length c := by
 obtain ⟨A, c, hv, ht, hb⟩ := T.ofR3 (q := q) (B := w0.heap.size) h (Nat.le_trans HF.base HF.size)
 exact ⟨A, c, hv, ht, TE3, fun b h => Nat.le_trans HF.size (hb b h)⟩
theorem lc54 {v : Value} {xs : List S54} {ok : Nat → Prop} (h : Kd.R k54 54 W1 W.heap.size ok v xs) (HF : Fr w0 w W g P) : ∃ A c, v = .slice A xs.length c ∧ Lc q w0 w 54 W1 A xs.length c := by
 obtain ⟨A, c, hv, ht, hb⟩ := T.ofR54 (q := q) (B := w0.heap.size) h (Nat.le_trans HF.base HF.size)
 exact ⟨A, c, hv, ht, TE54, fun b h => Nat.le_trans HF.size (hb b h)⟩
theorem copyT (q : Nat → Prop) (HF : Fr w0 w W g P) (h1 : T q1 w0.heap.size 3 W A1 n1 c1) (hn : n1 ≤ 1000) :
  Calls Try.prog 10 #[.slice A1 n1 c1] W fun e W1 => ∃ A c, e = .returned (.slice A n1 c) ∧ Lc q w0 w 3 W1 A n1 c ∧ Fr w0 w W1 g P ∧ Mv q w0 g 0 W W1 := by
 obtain ⟨x1, rfl, f1⟩ := h1.c3
 refine (spec_l3Copy.calls (x1.length + 1) A1 c1 x1 _ W (Kd.F_now f1) h1.le (l3Copy_f (by omega) (by omega))).mono ?_
 rintro e W1 ⟨v, rfl, hr, hb⟩
 obtain ⟨A, c, rfl, hl⟩ := lc3 (q := q) hr HF
 exact ⟨A, c, rfl, hl, HF.belowM hb⟩
theorem l1NumT (q : Nat → Prop) (HF : Fr w0 w W g P) (hP : P ≤ 999990) :
  Calls Try.prog 52 #[.pointer (some ⟨g, 0, none⟩)] W fun e W1 => ∃ r : Int, e = .returned (.int .i64 r) ∧ Fr w0 w W1 g (P + 6) ∧ Mv q w0 g 0 W W1 := by
 obtain ⟨⟨b, p, h1, h2, h3, h4⟩, h5⟩ := HF.st
 obtain ⟨r, hr⟩ := l1Number_f h2 h3 (by omega)
 refine (spec_l1Number.calls 1 g b p r (p + 6) w0 W h1 h5 hr).mono ?_
 rintro e W1 ⟨rfl, hi, hb, hk⟩
 exact ⟨r, rfl, HF.callM ⟨⟨b, p + 6, hi, h2, by omega, by omega⟩, hb⟩ hk⟩
theorem l1PickT (q : Nat → Prop) (v : Int) (HF : Fr w0 w W g P) (hP : P ≤ 999990) (h1 : T q1 w0.heap.size 3 W A1 n1 c1) (hn : n1 ≤ 1000) :
  Calls Try.prog 53 #[.pointer (some ⟨g, 0, none⟩), .slice A1 n1 c1, .int .i64 v] W fun e W1 => ∃ r : Int, e = .returned (.int .i64 r) ∧ Fr w0 w W1 g (P + 1) ∧ Mv q w0 g 0 W W1 := by
 obtain ⟨x1, rfl, f1⟩ := h1.c3
 have hne := h1.ne_rd TE3 HF.st
 obtain ⟨⟨b, p, hI, h2, h3, h4⟩, h5⟩ := HF.st
 obtain ⟨r, hr⟩ := l1Pick_f (v := v) h2 h3 (by omega) hn
 refine (spec_l1Pick.calls 1002 g b p A1 c1 x1 v r (p + 1) w0 W hI h5 (Kd.F_now f1) h1.le (fun ad e _ hg => ?_) hr).mono ?_
 ·subst e
  exact hne (by rw [← hg]; rfl)
 ·rintro e W1 ⟨rfl, hi, hb, hk⟩
  exact ⟨r, rfl, HF.callM ⟨⟨b, p + 1, hi, h2, by omega, by omega⟩, hb⟩ hk⟩
theorem kindT (q : Nat → Prop) (a0 a1 a2 a3 v : Int) (HF : Fr w0 w W g P) (h1 : T q1 w0.heap.size 3 W A1 n1 c1) (hn : n1 ≤ 1000) :
  Calls Try.prog 47 #[.agg #[.int .i64 a0, .int .i64 a1, .int .i64 a2, .int .i64 a3], .slice A1 n1 c1, .int .i64 v] W fun e W1 => ∃ r : Int, e = .returned (.int .i64 r) ∧ Fr w0 w W1 g P ∧ Mv q w0 g 0 W W1 := by
 obtain ⟨x1, rfl, f1⟩ := h1.c3
 refine (spec_l1Kind.calls 6 a0 a1 a2 a3 A1 c1 x1 v _ W (Kd.F_now f1) h1.le (l1Kind_f (by omega) (by omega))).mono ?_
 rintro e W1 ⟨rfl, hb⟩
 exact ⟨_, rfl, HF.belowM hb⟩
theorem condT (q : Nat → Prop) (a0 a1 a2 v : Int) (HF : Fr w0 w W g P) (hP : P ≤ 999990) :
  Calls Try.prog 43 #[.pointer (some ⟨g, 0, none⟩), .agg #[.int .i64 a0, .int .i64 a1, .int .i64 a2], .int .i64 v] W fun e W1 => ∃ A n c, e = .returned (.slice A n c) ∧ n ≤ 4 ∧ Lc q w0 w 54 W1 A n c ∧ Fr w0 w W1 g (P + 3) ∧ Mv q w0 g 0 W W1 := by
 obtain ⟨⟨b, p, hI, h2, h3, h4⟩, h5⟩ := HF.st
 obtain ⟨r, hr, hl⟩ := l2Cond_f (a0 := a0) (a1 := a1) (a2 := a2) (v := v) h2 h3 (by omega)
 refine (spec_l2Cond.calls 1 g b p a0 a1 a2 v r (p + 3) w0 W hI h5 hr).mono ?_
 rintro e W1 ⟨v, rfl, hv, hi, hb, hk⟩
 obtain ⟨A, c, rfl, hlc⟩ := lc54 (q := q) hv HF
 exact ⟨A, _, c, rfl, hl, hlc, HF.callM ⟨⟨b, p + 3, hi, h2, by omega, by omega⟩, hb⟩ hk⟩
theorem joinT' (q : Nat → Prop) (op v : Int) (HF : Fr w0 w W g P) (h1 : T q1 w0.heap.size 54 W A1 n1 c1) (h2 : T q2 w0.heap.size 54 W A2 n2 c2) (hn1 : n1 ≤ 1000) (hn2 : n2 ≤ 1000) :
  Calls Try.prog 44 #[.int .i64 op, .slice A1 n1 c1, .slice A2 n2 c2, .int .i64 v] W fun e W1 => ∃ A n c, e = .returned (.slice A n c) ∧ n ≤ 81 ∧ Lc q w0 w 54 W1 A n c ∧ Fr w0 w W1 g P ∧ Mv q w0 g 0 W W1 := by
 obtain ⟨x1, rfl, f1⟩ := h1.c54
 obtain ⟨x2, rfl, f2⟩ := h2.c54
 refine (spec_Joined.calls (2 * x1.length + 2 * x2.length + 301) op A1 c1 x1 A2 c2 x2 v _ W (Kd.F_now f1) h1.le (Kd.F_now f2) h2.le (spec_join_f (by omega) (by omega) (by omega))).mono ?_
 rintro e W1 ⟨vv, rfl, hv, hb⟩
 obtain ⟨A, c, rfl, hlc⟩ := lc54 (q := q) hv HF
 exact ⟨A, _, c, rfl, joinR_length op x1 x2 v, hlc, HF.belowM hb⟩
end
end Ty
end Go.Proofs.Ytnidjlhbejifoaa.XFnSameRun
