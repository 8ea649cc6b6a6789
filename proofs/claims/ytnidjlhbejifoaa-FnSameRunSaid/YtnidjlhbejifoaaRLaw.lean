/- laws.FnSameRun: what it answers.
Conditions: each theorem's own. -/
import Derived.WalkMore
import Derived.Test.YtnidjlhbejifoaaRDraw
import Derived.Test.YtnidjlhbejifoaaRLawP
namespace Go.Proofs.Ytnidjlhbejifoaa.XFnSameRun
open Go.RowKit Go.Proofs.YtnidjlhbejifoaaW.PrintWords Go.Proofs.YtnidjlhbejifoaaW.PrintLast Go.Proofs.YtnidjlhbejifoaaW.PrintMore Go.Proofs.YtnidjlhbejifoaaX Ty
attribute [local go_sem] max2_int max_two
set_option linter.unusedVariables false
set_option linter.unusedSimpArgs false
/-- A row of lists of numbers that stands in memory, few and short. -/
structure RowL (W : World) (A : Option Addr) (n c : Nat) (l : List (List Int)) : Prop where
 e : l.length = n
 f : Kd.F (Kd.slice 3 (Kd.int .i64)) W (okT W) A n l
 le : n ≤ c
 q : ∀ x ∈ l, x.length ≤ 1000
 b : n ≤ 100
theorem RowL.of {w0 W : World} {A : Option Addr} {n c : Nat} (h : Rw Q1 w0 28 W A n c) (hb : n ≤ 100) : ∃ l, RowL W A n c l := by
 obtain ⟨l, h1, h2, h3⟩ := h.t.c28
 exact ⟨l, h1, h2, h.t.le, h3, hb⟩
structure RowC (W : World) (A : Option Addr) (n c : Nat) (l : List (List Int)) : Prop where
 e : l.length = n
 f : Kd.C (Kd.slice 3 (Kd.int .i64)) W A n l
 le : n ≤ c
 q : ∀ x ∈ l, x.length ≤ 1000
 b : n ≤ 100
theorem RowL.c {W : World} {A : Option Addr} {n c : Nat} {l : List (List Int)} (h : RowL W A n c l) : RowC W A n c l := ⟨h.e, Kd.F_now h.f, h.le, h.q, h.b⟩
structure IntRow (W : World) (A : Option Addr) (n c : Nat) (l : List Int) : Prop where
 e : l.length = n
 f : Kd.C (Kd.int .i64) W A n l
 le : n ≤ c
 b : n ≤ 1000
/-- The four rows that were drawn. -/
structure R4 (w0 W : World) (A1 : Option Addr) (n1 c1 : Nat) (l1 : List (List Int)) (A2 : Option Addr) (n2 c2 : Nat) (l2 : List (List Int)) (A3 : Option Addr) (n3 c3 : Nat) (l3 : List (List Int)) (A4 : Option Addr) (n4 c4 : Nat) (l4 : List (List Int)) : Prop where
 r1 : RowC W A1 n1 c1 l1
 r2 : RowC W A2 n2 c2 l2
 r3 : RowC W A3 n3 c3 l3
 r4 : RowC W A4 n4 c4 l4
 b : Below w0.heap.size w0 W
section
variable {w0 W W1 : World} {A : Option Addr} {n c : Nat} {l : List (List Int)} {A1 : Option Addr} {n1 c1 : Nat} {l1 : List (List Int)} {A2 : Option Addr} {n2 c2 : Nat} {l2 : List (List Int)} {A3 : Option Addr} {n3 c3 : Nat} {l3 : List (List Int)} {A4 : Option Addr} {n4 c4 : Nat} {l4 : List (List Int)}
theorem RowC.mv (h : RowC W A n c l) (hb : Below W.heap.size W W1) : RowC W1 A n c l := ⟨h.e, Kd.C_below h.f hb, h.le, h.q, h.b⟩
theorem R4.mv (h : R4 w0 W A1 n1 c1 l1 A2 n2 c2 l2 A3 n3 c3 l3 A4 n4 c4 l4) (hb : Below W.heap.size W W1) : R4 w0 W1 A1 n1 c1 l1 A2 n2 c2 l2 A3 n3 c3 l3 A4 n4 c4 l4 := ⟨h.r1.mv hb, h.r2.mv hb, h.r3.mv hb, h.r4.mv hb, h.b.trans (hb.mono h.b.size)⟩
theorem R4.big (h : R4 w0 W A1 n1 c1 l1 A2 n2 c2 l2 A3 n3 c3 l3 A4 n4 c4 l4) : (∀ x ∈ l1, x.length ≤ 1048576) ∧ (∀ x ∈ l2, x.length ≤ 1048576) ∧ (∀ x ∈ l3, x.length ≤ 1048576) ∧ (∀ x ∈ l4, x.length ≤ 1048576) :=
 ⟨fun x hx => Nat.le_trans (h.r1.q x hx) (by decide), fun x hx => Nat.le_trans (h.r2.q x hx) (by decide), fun x hx => Nat.le_trans (h.r3.q x hx) (by decide), fun x hx => Nat.le_trans (h.r4.q x hx) (by decide)⟩
theorem run5 {R : Bool} (h : R4 w0 W A1 n1 c1 l1 A2 n2 c2 l2 A3 n3 c3 l3 A4 n4 c4 l4) (hR : runR l1 l2 l3 l4 = R) :
  Calls Try.prog 5 #[.slice A1 n1 c1, .slice A2 n2 c2, .slice A3 n3 c3, .slice A4 n4 c4] W fun e W1 => e = .returned (.bool R) ∧ Below W.heap.size W W1 := by
 obtain ⟨⟨rfl, f1, k1, q1, b1⟩, ⟨rfl, f2, k2, q2, b2⟩, ⟨rfl, f3, k3, q3, b3⟩, ⟨rfl, f4, k4, q4, b4⟩, hb⟩ := id h
 obtain ⟨x1, x2, x3, x4⟩ := h.big
 exact impl_SameRun.calls 2000001 A1 c1 l1 A2 c2 l2 A3 c3 l3 A4 c4 l4 R W f1 k1 f2 k2 f3 k3 f4 k4 (hR ▸ impl_run (by omega) (by omega) (by omega) (by omega) (by omega) x1 x2 x3 x4)
theorem run6 {R : Bool} (h : R4 w0 W A1 n1 c1 l1 A2 n2 c2 l2 A3 n3 c3 l3 A4 n4 c4 l4) (hR : runR l1 l2 l3 l4 = R) :
  Calls Try.prog 6 #[.slice A1 n1 c1, .slice A2 n2 c2, .slice A3 n3 c3, .slice A4 n4 c4] W fun e W1 => e = .returned (.bool R) ∧ Below W.heap.size W W1 := by
 obtain ⟨⟨rfl, f1, k1, q1, b1⟩, ⟨rfl, f2, k2, q2, b2⟩, ⟨rfl, f3, k3, q3, b3⟩, ⟨rfl, f4, k4, q4, b4⟩, hb⟩ := id h
 obtain ⟨x1, x2, x3, x4⟩ := h.big
 exact spec_SameRun.calls 2000001 A1 c1 l1 A2 c2 l2 A3 c3 l3 A4 c4 l4 R W f1 k1 f2 k2 f3 k3 f4 k4 (hR ▸ spec_run (by omega) (by omega) (by omega) (by omega) (by omega) x1 x2 x3 x4)
theorem at8 (h1 : RowC W A1 n1 c1 l1) (h2 : RowC W A2 n2 c2 l2) (hp : 0 < n2) (i : Nat) (hi : i < 80) :
  Calls Try.prog 8 #[.slice A1 n1 c1, .slice A2 n2 c2, .int .i64 i] W fun e W1 => ∃ A n c, e = .returned (.slice A n c) ∧ IntRow W1 A n c (atL l1 l2 i) ∧ Below W.heap.size W W1 := by
 obtain ⟨rfl, f1, k1, q1, b1⟩ := h1
 obtain ⟨rfl, f2, k2, q2, b2⟩ := h2
 have x1 : ∀ x ∈ l1, x.length ≤ 1048576 := fun x hx => Nat.le_trans (q1 x hx) (by decide)
 have x2 : ∀ x ∈ l2, x.length ≤ 1048576 := fun x hx => Nat.le_trans (q2 x hx) (by decide)
 refine (impl_LassoAt.calls 2 A1 c1 l1 A2 c2 l2 (i : Int) _ W f1 k1 f2 k2 (lassoAtX_f hp (by omega) (by omega) x1 x2)).mono ?_
 rintro e W1 ⟨v, rfl, hv, hb⟩
 obtain ⟨A, c, rfl, hle, hc⟩ := Kd.R_reads hv
 refine ⟨A, _, c, rfl, ⟨rfl, hc, hle, ?_⟩, hb⟩
 unfold atL
 split
 ·rename_i hl
  exact q1 _ (getD_mem l1 i [] hl)
 ·exact q2 _ (getD_mem l2 _ [] (Nat.mod_lt _ hp))
theorem IntRow.mv {x : List Int} (h : IntRow W A n c x) (hb : Below W.heap.size W W1) : IntRow W1 A n c x := ⟨h.e, Kd.C_below h.f hb, h.le, h.b⟩
theorem wc7 {x1 x2 : List Int} (h1 : IntRow W A1 n1 c1 x1) (h2 : IntRow W A2 n2 c2 x2) :
  Calls Try.prog 7 #[.slice A1 n1 c1, .slice A2 n2 c2] W fun e W1 => e = .returned (.bool (decide (x1 = x2))) ∧ Below W.heap.size W W1 := by
 obtain ⟨rfl, f1, k1, b1⟩ := h1
 obtain ⟨rfl, f2, k2, b2⟩ := h2
 refine (laws_wcInts.calls 1001 A1 c1 x1 A2 c2 x2 _ W f1 k1 f2 k2 (wcInts_f (by omega) (by omega))).mono ?_
 rintro e W1 ⟨rfl, hb⟩
 exact ⟨rfl, hb.below⟩
theorem wc7s {x1 x2 : List Int} (h1 : IntRow W A1 n1 c1 x1) (h2 : IntRow W A2 n2 c2 x2) (he : x1 = x2) :
  Calls Try.prog 7 #[.slice A1 n1 c1, .slice A2 n2 c2] W fun e W1 => e = .returned (.bool true) ∧ Below W.heap.size W W1 := by
 have h := wc7 h1 h2
 rw [decide_eq_true he] at h
 exact h
theorem wc7b {x1 x2 : List Int} (h1 : IntRow W A1 n1 c1 x1) (h2 : IntRow W A2 n2 c2 x2) :
  Calls Try.prog 7 #[.slice A1 n1 c1, .slice A2 n2 c2] W fun e W1 => ∃ b, e = .returned (.bool b) ∧ Below W.heap.size W W1 := (wc7 h1 h2).mono fun e W1 h => ⟨_, h.1, h.2⟩
end

set_option maxHeartbeats 8000000 in
set_option maxRecDepth 100000 in
theorem FnSameRun.rel {w0 : World} (Ac : Option Addr) (cc : Nat) (code : List Int) (hr : Kd.C (Kd.int .u8) w0 Ac code.length code) (hcc : code.length ≤ cc) (hw : ∀ x ∈ code, (Lit.int .u8 x).wf = true) :
  Calls Try.prog 3 #[.slice Ac code.length cc] w0 fun e w' => e = .returned (.bool true) ∧ Below w0.heap.size w0 w' := by
 have HR := Aside0.mk hr
 have HC := Aside0.mk hcc
 have HW := Aside0.mk hw
 clear hr hcc hw
 go_enter Try.func3, Try.ntmps3
 by_cases hlen : 1048576 < code.length
 ·have e1 : decide ((1048576 : Int) < (code.length : Int)) = true := decide_eq_true (by omega)
  have e2 : decide (1048576 < code.length) = true := decide_eq_true hlen
  clear hlen
  go_wp2_with (fail)
  go_ret
  exact ⟨rfl, Below.refl _ _⟩
 ·have e1 : decide ((1048576 : Int) < (code.length : Int)) = false := decide_eq_false (by omega)
  have e2 : decide (1048576 < code.length) = false := decide_eq_false hlen
  clear hlen
  go_wp2_with (fail)
  refine (DrawSameRun.rel Ac cc code HR.out HC.out HW.out).mono ?_
  rintro e w_ ⟨A1, n1, c1, A2, n2, c2, A3, n3, c3, A4, n4, c4, rfl, g1, g2, g3, g4, h1, h2, h3, h4, hb⟩
  obtain ⟨l1, r1⟩ := RowL.of h1 g1
  obtain ⟨l2, r2⟩ := RowL.of h2 g2
  obtain ⟨l3, r3⟩ := RowL.of h3 g3
  obtain ⟨l4, r4⟩ := RowL.of h4 g4
  have H4 : R4 w0 w_ A1 n1 c1 l1 A2 n2 c2 l2 A3 n3 c3 l3 A4 n4 c4 l4 := ⟨r1.c, r2.c, r3.c, r4.c, hb⟩
  clear g1 g2 g3 g4 h1 h2 h3 h4 hb r1 r2 r3 r4 HR HC HW
  obtain ⟨R, hR⟩ : ∃ R, runR l1 l2 l3 l4 = R := ⟨_, rfl⟩
  go_wp2_with (fail)
  refine (run5 H4 hR).mono ?_
  rintro e w_ ⟨rfl, hb⟩
  replace H4 := H4.mv hb
  clear hb
  go_wp2_with (fail)
  refine (run6 H4 hR).mono ?_
  rintro e w_ ⟨rfl, hb⟩
  replace H4 := H4.mv hb
  clear hb
  cases R
  ·by_cases hp2 : 0 < n2
   ·by_cases hp4 : 0 < n4
    ·skip
     have f2a : decide (0 < n2) = true := decide_eq_true (by omega)
     have f2b : decide ((0 : Int) < (n2 : Int)) = true := decide_eq_true (by omega)
     have f4a : decide (0 < n4) = true := decide_eq_true (by omega)
     have f4b : decide ((0 : Int) < (n4 : Int)) = true := decide_eq_true (by omega)
     go_wp2_with (fail)
     go_loopg [8, 9] 81 (fun kq v8 v9 wr => ∃ (b : Bool) (n : Nat), v8 = .bool b ∧ v9 = .int .i64 n ∧ R4 w0 wr A1 n1 c1 l1 A2 n2 c2 l2 A3 n3 c3 l3 A4 n4 c4 l4 ∧ Aside0 ((b = true → 0 < n2 ∧ 0 < n4) ∧ n ≤ 80 ∧ 80 < n + kq))
     case atStart => exact ⟨_, 0, rfl, rfl, H4, ⟨fun h => (by first | exact ⟨hp2, hp4⟩ | cases h), by omega, by omega⟩⟩
     case round =>
      clear H4
      obtain ⟨b, n, rfl, rfl, H4, HI⟩ := hrel
      cases b
      ·go_wp2_with (fail)
       go_ret
       exact ⟨rfl, H4.b⟩
      ·obtain ⟨hp2, hp4⟩ := HI.out.1 rfl
       by_cases hc : n < 80
       ·skip
        have c0 : decide (n < 80) = true := decide_eq_true hc
        have c1 : decide ((n : Int) < 80) = true := decide_eq_true (by omega)
        have HI2 := Aside0.mk hc
        have hwn : wrap64 ((n : Int) + 1) = (n : Int) + 1 := by unfold wrap64; omega
        clear hc
        go_wp2_with (first | (go_at_call 8; (with_reducible refine (at8 H4.r1 H4.r2 hp2 n (by have := HI2.out; omega)).mono ?_); rintro e w_ ⟨AA, nA, cA, rfl, XA, hb⟩; replace H4 := H4.mv hb; clear hb) | (go_at_call 8; (with_reducible refine (at8 H4.r3 H4.r4 hp4 n (by have := HI2.out; omega)).mono ?_); rintro e w_ ⟨AB, nB, cB, rfl, XB, hb⟩; replace H4 := H4.mv hb; replace XA := XA.mv hb; clear hb) | (go_at_call 7; (with_reducible refine (wc7b XA XB).mono ?_); rintro e w_ ⟨b7, rfl, hb⟩; replace H4 := H4.mv hb; clear hb))
        go_roundg (gk - 1)
        case measure => have := HI.out; have := HI2.out; omega
        case rel => exact ⟨_, n + 1, rfl, (by first | rfl | (rw [hwn]; rfl)), H4, ⟨fun _ => ⟨hp2, hp4⟩, by have := HI2.out; omega, by have := HI.out; omega⟩⟩
       ·skip
        have c0 : decide (n < 80) = false := decide_eq_false hc
        have c1 : decide ((n : Int) < 80) = false := decide_eq_false (by omega)
        go_wp2_with (fail)
        go_ret
        exact ⟨rfl, H4.b⟩
    ·skip
     have f2a : decide (0 < n2) = true := decide_eq_true (by omega)
     have f2b : decide ((0 : Int) < (n2 : Int)) = true := decide_eq_true (by omega)
     have f4a : decide (0 < n4) = false := decide_eq_false (by omega)
     have f4b : decide ((0 : Int) < (n4 : Int)) = false := decide_eq_false (by omega)
     go_wp2_with (fail)
     go_loopg [8, 9] 81 (fun kq v8 v9 wr => ∃ (b : Bool) (n : Nat), v8 = .bool b ∧ v9 = .int .i64 n ∧ R4 w0 wr A1 n1 c1 l1 A2 n2 c2 l2 A3 n3 c3 l3 A4 n4 c4 l4 ∧ Aside0 ((b = true → 0 < n2 ∧ 0 < n4) ∧ n ≤ 80 ∧ 80 < n + kq))
     case atStart => exact ⟨_, 0, rfl, rfl, H4, ⟨fun h => (by first | exact ⟨hp2, hp4⟩ | cases h), by omega, by omega⟩⟩
     case round =>
      clear H4
      obtain ⟨b, n, rfl, rfl, H4, HI⟩ := hrel
      cases b
      ·go_wp2_with (fail)
       go_ret
       exact ⟨rfl, H4.b⟩
      ·obtain ⟨hp2, hp4⟩ := HI.out.1 rfl
       by_cases hc : n < 80
       ·skip
        have c0 : decide (n < 80) = true := decide_eq_true hc
        have c1 : decide ((n : Int) < 80) = true := decide_eq_true (by omega)
        have HI2 := Aside0.mk hc
        have hwn : wrap64 ((n : Int) + 1) = (n : Int) + 1 := by unfold wrap64; omega
        clear hc
        go_wp2_with (first | (go_at_call 8; (with_reducible refine (at8 H4.r1 H4.r2 hp2 n (by have := HI2.out; omega)).mono ?_); rintro e w_ ⟨AA, nA, cA, rfl, XA, hb⟩; replace H4 := H4.mv hb; clear hb) | (go_at_call 8; (with_reducible refine (at8 H4.r3 H4.r4 hp4 n (by have := HI2.out; omega)).mono ?_); rintro e w_ ⟨AB, nB, cB, rfl, XB, hb⟩; replace H4 := H4.mv hb; replace XA := XA.mv hb; clear hb) | (go_at_call 7; (with_reducible refine (wc7b XA XB).mono ?_); rintro e w_ ⟨b7, rfl, hb⟩; replace H4 := H4.mv hb; clear hb))
        go_roundg (gk - 1)
        case measure => have := HI.out; have := HI2.out; omega
        case rel => exact ⟨_, n + 1, rfl, (by first | rfl | (rw [hwn]; rfl)), H4, ⟨fun _ => ⟨hp2, hp4⟩, by have := HI2.out; omega, by have := HI.out; omega⟩⟩
       ·skip
        have c0 : decide (n < 80) = false := decide_eq_false hc
        have c1 : decide ((n : Int) < 80) = false := decide_eq_false (by omega)
        go_wp2_with (fail)
        go_ret
        exact ⟨rfl, H4.b⟩
   ·skip
    have f2a : decide (0 < n2) = false := decide_eq_false (by omega)
    have f2b : decide ((0 : Int) < (n2 : Int)) = false := decide_eq_false (by omega)
    go_wp2_with (fail)
    go_loopg [8, 9] 81 (fun kq v8 v9 wr => ∃ (b : Bool) (n : Nat), v8 = .bool b ∧ v9 = .int .i64 n ∧ R4 w0 wr A1 n1 c1 l1 A2 n2 c2 l2 A3 n3 c3 l3 A4 n4 c4 l4 ∧ Aside0 ((b = true → 0 < n2 ∧ 0 < n4) ∧ n ≤ 80 ∧ 80 < n + kq))
    case atStart => exact ⟨_, 0, rfl, rfl, H4, ⟨fun h => (by first | exact ⟨hp2, hp4⟩ | cases h), by omega, by omega⟩⟩
    case round =>
     clear H4
     obtain ⟨b, n, rfl, rfl, H4, HI⟩ := hrel
     cases b
     ·go_wp2_with (fail)
      go_ret
      exact ⟨rfl, H4.b⟩
     ·obtain ⟨hp2, hp4⟩ := HI.out.1 rfl
      by_cases hc : n < 80
      ·skip
       have c0 : decide (n < 80) = true := decide_eq_true hc
       have c1 : decide ((n : Int) < 80) = true := decide_eq_true (by omega)
       have HI2 := Aside0.mk hc
       have hwn : wrap64 ((n : Int) + 1) = (n : Int) + 1 := by unfold wrap64; omega
       clear hc
       go_wp2_with (first | (go_at_call 8; (with_reducible refine (at8 H4.r1 H4.r2 hp2 n (by have := HI2.out; omega)).mono ?_); rintro e w_ ⟨AA, nA, cA, rfl, XA, hb⟩; replace H4 := H4.mv hb; clear hb) | (go_at_call 8; (with_reducible refine (at8 H4.r3 H4.r4 hp4 n (by have := HI2.out; omega)).mono ?_); rintro e w_ ⟨AB, nB, cB, rfl, XB, hb⟩; replace H4 := H4.mv hb; replace XA := XA.mv hb; clear hb) | (go_at_call 7; (with_reducible refine (wc7b XA XB).mono ?_); rintro e w_ ⟨b7, rfl, hb⟩; replace H4 := H4.mv hb; clear hb))
       go_roundg (gk - 1)
       case measure => have := HI.out; have := HI2.out; omega
       case rel => exact ⟨_, n + 1, rfl, (by first | rfl | (rw [hwn]; rfl)), H4, ⟨fun _ => ⟨hp2, hp4⟩, by have := HI2.out; omega, by have := HI.out; omega⟩⟩
      ·skip
       have c0 : decide (n < 80) = false := decide_eq_false hc
       have c1 : decide ((n : Int) < 80) = false := decide_eq_false (by omega)
       go_wp2_with (fail)
       go_ret
       exact ⟨rfl, H4.b⟩
  ·obtain ⟨hp2, hp4⟩ := runR_pos hR
   have hp2 : 0 < n2 := by have := H4.r2.e; omega
   have hp4 : 0 < n4 := by have := H4.r4.e; omega
   have f2a : decide (0 < n2) = true := decide_eq_true (by omega)
   have f2b : decide ((0 : Int) < (n2 : Int)) = true := decide_eq_true (by omega)
   have f4a : decide (0 < n4) = true := decide_eq_true (by omega)
   have f4b : decide ((0 : Int) < (n4 : Int)) = true := decide_eq_true (by omega)
   go_wp2_with (fail)
   go_loopg [8, 9] 81 (fun kq v8 v9 wr => ∃ (n : Nat), v8 = .bool true ∧ v9 = .int .i64 n ∧ R4 w0 wr A1 n1 c1 l1 A2 n2 c2 l2 A3 n3 c3 l3 A4 n4 c4 l4 ∧ Aside0 (n ≤ 80 ∧ 80 < n + kq))
   case atStart => exact ⟨0, rfl, rfl, H4, ⟨by omega, by omega⟩⟩
   case round =>
    clear H4
    obtain ⟨n, rfl, rfl, H4, HI⟩ := hrel
    by_cases hc : n < 80
    ·skip
     have c0 : decide (n < 80) = true := decide_eq_true hc
     have c1 : decide ((n : Int) < 80) = true := decide_eq_true (by omega)
     have HI2 := Aside0.mk hc
     have hwn : wrap64 ((n : Int) + 1) = (n : Int) + 1 := by unfold wrap64; omega
     clear hc
     go_wp2_with (first | (go_at_call 8; (with_reducible refine (at8 H4.r1 H4.r2 hp2 n (by have := HI2.out; omega)).mono ?_); rintro e w_ ⟨AA, nA, cA, rfl, XA, hb⟩; replace H4 := H4.mv hb; clear hb) | (go_at_call 8; (with_reducible refine (at8 H4.r3 H4.r4 hp4 n (by have := HI2.out; omega)).mono ?_); rintro e w_ ⟨AB, nB, cB, rfl, XB, hb⟩; replace H4 := H4.mv hb; replace XA := XA.mv hb; clear hb) | (go_at_call 7; (with_reducible refine (wc7s XA XB (runR_at hR (by have := H4.r2.e; omega) (by have := H4.r4.e; omega) n)).mono ?_); rintro e w_ ⟨rfl, hb⟩; replace H4 := H4.mv hb; clear hb))
     go_roundg (gk - 1)
     case measure => have := HI.out; have := HI2.out; omega
     case rel => exact ⟨n + 1, rfl, (by first | rfl | (rw [hwn]; rfl)), H4, ⟨by have := HI2.out; omega, by have := HI.out; omega⟩⟩
    ·skip
     have c0 : decide (n < 80) = false := decide_eq_false hc
     have c1 : decide ((n : Int) < 80) = false := decide_eq_false (by omega)
     go_wp2_with (fail)
     go_ret
     exact ⟨rfl, H4.b⟩
end Go.Proofs.Ytnidjlhbejifoaa.XFnSameRun
