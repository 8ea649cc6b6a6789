/- Printed by a program of this session out of the translation: the Go functions that a law uses as plain Lean functions, with the proofs of their calls, or the law's row.
Conditions: those that each theorem states. -/
import Derived.Test.YtbjkjoicecmmpacProg
import Derived.Below
import Derived.Deep.Draws
import Derived.Deep.AppendLies
import Derived.Maps.AppendAt
import Derived.OwnWalk
import Derived.Laws.BytesArg
import Derived.Laws.MakeOwn
import Derived.Laws.OwnMore
import Derived.Deep.OwnRows
import Derived.Tactics
import Derived.Lib.ConvBytes
import Derived.Laws.Slices
import Derived.WalkKit
import Derived.KernelRfl
import Derived.RowKit3
import Derived.Deep.LoopGhost
import Derived.Deep.QuietTactic
import Derived.BigQuiet
import Derived.WideLaws
import Derived.Deep.DeepCutAuto
import Derived.Deep.CutBlock
import Derived.Deep.RegionHeld3
import Derived.Laws.Rows
import Derived.Lib.AppendStr
import Derived.ArgAppend
import Derived.Laws.IdiomCopy
import Derived.OrdersHeld
import Derived.Laws.BitsLemmas
import Derived.RowKit
import Derived.Test.YtbjkjoicecmmpacWWords
import Derived.Test.YtbjkjoicecmmpacWLast
import Derived.Test.YtbjkjoicecmmpacWTab
import Derived.Test.YtbjkjoicecmmpacWFour
import Derived.Test.YtbjkjoicecmmpacWQPut
import Derived.Test.YtbjkjoicecmmpacWApart
import Derived.Test.YtbjkjoicecmmpacWArr
import Derived.Test.YtbjkjoicecmmpacWZeros
import Derived.Test.YtbjkjoicecmmpacWFoot
import Derived.Test.YtbjkjoicecmmpacWKept
import Derived.Test.YtbjkjoicecmmpacWShare
import Derived.Test.YtbjkjoicecmmpacWN
import Derived.Test.YtbjkjoicecmmpacWFootNe
import Derived.Test.YtbjkjoicecmmpacWAt
import Derived.Test.YtbjkjoicecmmpacWEqStruct
import Derived.Test.YtbjkjoicecmmpacWRepsOne
import Derived.Test.YtbjkjoicecmmpacWInv
import Derived.Test.YtbjkjoicecmmpacWInvWords
import Derived.Test.YtbjkjoicecmmpacWGuard
import Derived.Test.YtbjkjoicecmmpacWNEv
import Derived.Test.YtbjkjoicecmmpacWMore
import Derived.Test.YtbjkjoicecmmpacXCopy
namespace Go.Proofs.Ytbjkjoicecmmpac.XFnExactNeedsInputs
open Go.RowKit Go.Proofs.YtbjkjoicecmmpacW.PrintWords Go.Proofs.YtbjkjoicecmmpacW.PrintLast Go.Proofs.YtbjkjoicecmmpacW.PrintMore
attribute [local go_sem] max2_int min2_int max_two min_two max_three min_three max_four min_four   -- for this text's walks alone
set_option linter.unusedVariables false
set_option linter.unusedSimpArgs false



def errW : Option Int → Value
  | none => .nilIface
  | some c => .iface 0 (.int .i64 c)
theorem errW_none : errW none = .nilIface := rfl
theorem errW_some (c : Int) : errW (some c) = .iface 0 (.int .i64 c) := rfl

theorem info3 : (Try.prog.info? 3).map (fun i => (i.zero, i.size, i.bytes)) = some (some (.int .i64 0), 1, 8) := by kernel_rfl
theorem info4 : (Try.prog.info? 4).map (fun i => (i.zero, i.size, i.bytes)) = some (some (.bool false), 1, 1) := by kernel_rfl
theorem info145 : (Try.prog.info? 145).map (fun i => (i.zero, i.size, i.bytes)) = some (some (.agg #[(.int .i64 0), (.int .i64 0)]), 2, 16) := by kernel_rfl
-- the values' own types
/-! #### struct type 163 -/
structure S163 where
  f0 : Int
  f1 : Int
def z163 : S163 := ⟨(0 : Int), (0 : Int)⟩
def k163 : Kd S163 := Kd.iso (Kd.pair (Kd.int .i64) (Kd.int .i64)) (fun x : S163 => (x.f0, x.f1))
theorem k163_open {w : World} {x : S163} {cs : List Value} (h : k163.K w x cs) : cs = [.int .i64 x.f0, .int .i64 x.f1] := by
  obtain ⟨_, _, rfl, rfl, rfl⟩ := h
  exact rfl
theorem k163_openM {w : World} {base : Nat} {ok : Nat → Prop} {x : S163} {cs : List Value} (h : k163.M w base ok x cs) : cs = [.int .i64 x.f0, .int .i64 x.f1] := by
  obtain ⟨_, _, rfl, rfl, rfl⟩ := h
  exact rfl
theorem k163_mk (w : World) (x : S163)  : k163.K w x [.int .i64 x.f0, .int .i64 x.f1] := ⟨[.int .i64 x.f0], [.int .i64 x.f1], rfl, rfl, rfl⟩
theorem k163_mkM (w : World) (base : Nat) (ok : Nat → Prop) (x : S163)  : k163.M w base ok x [.int .i64 x.f0, .int .i64 x.f1] := ⟨[.int .i64 x.f0], [.int .i64 x.f1], rfl, rfl, rfl⟩
def rd_T163 (xs : List S163) (i : Int) : S163 := xs.getD i.toNat z163
theorem at_T163 {w : World} {A : Option Addr} {n : Nat} {xs : List S163} (h : Kd.C k163 w A n xs) (i : Int) (h0 : 0 ≤ i) (h1 : i < n) : ∃ ad , A = some ad ∧ w.cell? (ad.add (i.toNat * 2)) = some (.int .i64 (rd_T163 xs i).f0) ∧ w.cell? ⟨(ad.add (i.toNat * 2)).block, (ad.add (i.toNat * 2)).off + 1, none⟩ = some (.int .i64 (rd_T163 xs i).f1) := by
  obtain ⟨ad, c, e, _, hK, hc0⟩ := Kd.C_get h z163 i h0 h1
  have hc : ∀ j u, c[j]? = some u → w.cell? (ad.add (i.toNat * 2 + j)) = some u := hc0
  obtain rfl := k163_open hK
  exact ⟨ad, e, hc 0 _ rfl, by rw [← add_field _ _ 1 (by omega)]; exact hc 1 _ rfl⟩

/-! #### struct type 145 -/
structure S145 where
  f0 : Int
  f1 : Int
def z145 : S145 := ⟨(0 : Int), (0 : Int)⟩
def k145 : Kd S145 := Kd.iso (Kd.pair (Kd.int .i64) (Kd.int .i64)) (fun x : S145 => (x.f0, x.f1))
theorem k145_open {w : World} {x : S145} {cs : List Value} (h : k145.K w x cs) : cs = [.int .i64 x.f0, .int .i64 x.f1] := by
  obtain ⟨_, _, rfl, rfl, rfl⟩ := h
  exact rfl
theorem k145_openM {w : World} {base : Nat} {ok : Nat → Prop} {x : S145} {cs : List Value} (h : k145.M w base ok x cs) : cs = [.int .i64 x.f0, .int .i64 x.f1] := by
  obtain ⟨_, _, rfl, rfl, rfl⟩ := h
  exact rfl
theorem k145_mk (w : World) (x : S145)  : k145.K w x [.int .i64 x.f0, .int .i64 x.f1] := ⟨[.int .i64 x.f0], [.int .i64 x.f1], rfl, rfl, rfl⟩
theorem k145_mkM (w : World) (base : Nat) (ok : Nat → Prop) (x : S145)  : k145.M w base ok x [.int .i64 x.f0, .int .i64 x.f1] := ⟨[.int .i64 x.f0], [.int .i64 x.f1], rfl, rfl, rfl⟩
def rd_T145 (xs : List S145) (i : Int) : S145 := xs.getD i.toNat z145
theorem at_T145 {w : World} {A : Option Addr} {n : Nat} {xs : List S145} (h : Kd.C k145 w A n xs) (i : Int) (h0 : 0 ≤ i) (h1 : i < n) : ∃ ad , A = some ad ∧ w.cell? (ad.add (i.toNat * 2)) = some (.int .i64 (rd_T145 xs i).f0) ∧ w.cell? ⟨(ad.add (i.toNat * 2)).block, (ad.add (i.toNat * 2)).off + 1, none⟩ = some (.int .i64 (rd_T145 xs i).f1) := by
  obtain ⟨ad, c, e, _, hK, hc0⟩ := Kd.C_get h z145 i h0 h1
  have hc : ∀ j u, c[j]? = some u → w.cell? (ad.add (i.toNat * 2 + j)) = some u := hc0
  obtain rfl := k145_open hK
  exact ⟨ad, e, hc 0 _ rfl, by rw [← add_field _ _ 1 (by omega)]; exact hc 1 _ rfl⟩

end Go.Proofs.Ytbjkjoicecmmpac.XFnExactNeedsInputs
