/-
  No cell of these rows narrows 'for every input' (looked for: loops, veiled, ifaces, maps, wideKeys, modest, calm, conditions, laid).
  DERIVED. THE GIVEN ROWS OF THIS SEAT. 3 by the template 'for every input the law returns true; each argument reads behind the call as it read before'; 0 by the template 'total and deterministic' (their statements: YthphgkhmeobadaaTotals.lean).
  GIVEN WITH THE SEED: the statements are not yours to turn. If you find one false, say at which input.
  Laid BY PROGRAM, IN A SANDBOX (cutbox-rows.mjs): the forced cells as the released guide's own fill.sh prints them over the translation 7b2278be627472e2… (all of the seat's roots in one cut). By AI agents, Wed Nov 11 2026. No macro, syntax, notation, axiom, sorry.
-/
import Derived.Test.YthphgkhmeobadaaChecked
import GoSem.Claim
import GoSem.ClaimJoined
import GoSem.ClaimMapViews
import Derived.JoinedTies
import Derived.KernelRfl
namespace Go.Proofs.Ythphgkhmeobadaa
/- THE CELL 'sum', in the pinned program and in every row, IS THE sha256 OF THE DUMP (.gsa) THAT YthphgkhmeobadaaProg.lean LOADS. Nothing in Lean hashes anything: it is a label: what it is worth is what the hold of that sum in a sandbox is worth. -/
noncomputable def Try.pinned : Pinned := { name := "ythphgkhmeobadaa", sum := "7b2278be627472e273176535954f59cd569205aa2f080a8bdcba04c4b4028782", checked := Try.checked }
namespace Rows
def none {H : Type} : Left H := { results := [], args := [] }

/-- 'laws.FnExactAddAnd': WHATEVER THE INPUT: true; the input reads as it did. -/
def fnExactAddAndSpec : ChangeSpec := { name := "fnExactAddAnd", fn := fun _ => fun
  | [d1, d2, d3] => { results := [.lit (.bool true)], args := [d1, d2, d3] }
  | _ => none }
def fnExactAddAndRow : OpenClaim := { program := "ythphgkhmeobadaa", sum := "7b2278be627472e273176535954f59cd569205aa2f080a8bdcba04c4b4028782", func := "loop.example/wholecheck/laws.FnExactAddAnd", spec := "fnExactAddAnd", plainKeys := false, apart := false }
def FnExactAddAndSaid : Prop := fnExactAddAndRow.holds Try.pinned (OpenSpec.ofChange fnExactAddAndSpec)

/-- ITS FALSE NEIGHBOUR: 'it returns false'. Refute it at one input. -/
def fnExactAddAndWrong : ChangeSpec := { name := "fnExactAddAnd", fn := fun _ => fun
  | [d1, d2, d3] => { results := [.lit (.bool false)], args := [d1, d2, d3] }
  | _ => none }
def FnExactAddAndWrongFalsely : Prop := fnExactAddAndRow.holds Try.pinned (OpenSpec.ofChange fnExactAddAndWrong)

/-- 'laws.FnExactAddOr': WHATEVER THE INPUT: true; the input reads as it did. -/
def fnExactAddOrSpec : ChangeSpec := { name := "fnExactAddOr", fn := fun _ => fun
  | [d1, d2, d3] => { results := [.lit (.bool true)], args := [d1, d2, d3] }
  | _ => none }
def fnExactAddOrRow : OpenClaim := { program := "ythphgkhmeobadaa", sum := "7b2278be627472e273176535954f59cd569205aa2f080a8bdcba04c4b4028782", func := "loop.example/wholecheck/laws.FnExactAddOr", spec := "fnExactAddOr", plainKeys := false, apart := false }
def FnExactAddOrSaid : Prop := fnExactAddOrRow.holds Try.pinned (OpenSpec.ofChange fnExactAddOrSpec)

/-- ITS FALSE NEIGHBOUR: 'it returns false'. Refute it at one input. -/
def fnExactAddOrWrong : ChangeSpec := { name := "fnExactAddOr", fn := fun _ => fun
  | [d1, d2, d3] => { results := [.lit (.bool false)], args := [d1, d2, d3] }
  | _ => none }
def FnExactAddOrWrongFalsely : Prop := fnExactAddOrRow.holds Try.pinned (OpenSpec.ofChange fnExactAddOrWrong)

/-- 'laws.FnAddAndOr': WHATEVER THE INPUT: true; the input reads as it did. -/
def fnAddAndOrSpec : ChangeSpec := { name := "fnAddAndOr", fn := fun _ => fun
  | [d] => { results := [.lit (.bool true)], args := [d] }
  | _ => none }
def fnAddAndOrRow : OpenClaim := { program := "ythphgkhmeobadaa", sum := "7b2278be627472e273176535954f59cd569205aa2f080a8bdcba04c4b4028782", func := "loop.example/wholecheck/laws.FnAddAndOr", spec := "fnAddAndOr", plainKeys := false, apart := false }
def FnAddAndOrSaid : Prop := fnAddAndOrRow.holds Try.pinned (OpenSpec.ofChange fnAddAndOrSpec)

/-- ITS FALSE NEIGHBOUR: 'it returns false'. Refute it at one input. -/
def fnAddAndOrWrong : ChangeSpec := { name := "fnAddAndOr", fn := fun _ => fun
  | [d] => { results := [.lit (.bool false)], args := [d] }
  | _ => none }
def FnAddAndOrWrongFalsely : Prop := fnAddAndOrRow.holds Try.pinned (OpenSpec.ofChange fnAddAndOrWrong)

/- THE SECOND FORM. 'bulk': how many values and letters a reading holds, each counted each time it is reached (what is shared counts as often as it is met; a slice's spare places count too). A statement '..UptoSaid' is the law's where the arguments, and the package variables that the reading takes, are together of bulk at most 1048576: NARROWER than '..Said'. Prove '..Said' where nothing that the law and all that it calls make is longer than what came in: it says more and counts as full. Else prove '..UptoSaid'. A law counts once. -/
mutual
def uptoBulk {H : Type} : DataW H → Nat
  | .lit (.string bytes) => bytes.length + 1
  | .lit _ => 1
  | .nil => 1
  | .ptr d => uptoBulk d + 1
  | .slice elems spare => uptoBulkAll elems + uptoBulkAll spare + 1
  | .agg parts => uptoBulkAll parts + 1
  | .iface _ d => uptoBulk d + 1
  | .map entries => uptoBulkEntries entries + 1
  | .held _ => 1
def uptoBulkAll {H : Type} : List (DataW H) → Nat
  | [] => 0
  | d :: r => uptoBulk d + uptoBulkAll r
def uptoBulkEntries {H : Type} : List (Lit × DataW H) → Nat
  | [] => 0
  | x :: r => uptoBulkEntry x + uptoBulkEntries r
def uptoBulkEntry {H : Type} : Lit × DataW H → Nat
  | (.string bytes, d) => bytes.length + uptoBulk d + 1
  | (_, d) => uptoBulk d + 1
 end
def uptoSmall : (H : Type) → List (DataW H) → Bool := fun _ ds => decide (uptoBulkAll ds ≤ 1048576)
def OpenSpec.upto (s : _root_.Go.ChangeSpec) : _root_.Go.OpenSpec := { _root_.Go.OpenSpec.ofChange s with cond := some uptoSmall }

/-- 'laws.FnExactAddAnd', WHERE WHAT IT READS IS OF BULK AT MOST 1048576: true; the input reads as it did. -/
def fnExactAddAndUptoRow : OpenClaim := { program := "ythphgkhmeobadaa", sum := "7b2278be627472e273176535954f59cd569205aa2f080a8bdcba04c4b4028782", func := "loop.example/wholecheck/laws.FnExactAddAnd", spec := "fnExactAddAnd", plainKeys := false, apart := false, narrowed := true }
def FnExactAddAndUptoSaid : Prop := fnExactAddAndUptoRow.holds Try.pinned (OpenSpec.upto fnExactAddAndSpec)

/-- 'laws.FnExactAddOr', WHERE WHAT IT READS IS OF BULK AT MOST 1048576: true; the input reads as it did. -/
def fnExactAddOrUptoRow : OpenClaim := { program := "ythphgkhmeobadaa", sum := "7b2278be627472e273176535954f59cd569205aa2f080a8bdcba04c4b4028782", func := "loop.example/wholecheck/laws.FnExactAddOr", spec := "fnExactAddOr", plainKeys := false, apart := false, narrowed := true }
def FnExactAddOrUptoSaid : Prop := fnExactAddOrUptoRow.holds Try.pinned (OpenSpec.upto fnExactAddOrSpec)

/-- 'laws.FnAddAndOr', WHERE WHAT IT READS IS OF BULK AT MOST 1048576: true; the input reads as it did. -/
def fnAddAndOrUptoRow : OpenClaim := { program := "ythphgkhmeobadaa", sum := "7b2278be627472e273176535954f59cd569205aa2f080a8bdcba04c4b4028782", func := "loop.example/wholecheck/laws.FnAddAndOr", spec := "fnAddAndOr", plainKeys := false, apart := false, narrowed := true }
def FnAddAndOrUptoSaid : Prop := fnAddAndOrUptoRow.holds Try.pinned (OpenSpec.upto fnAddAndOrSpec)

end Rows
end Go.Proofs.Ythphgkhmeobadaa
