/-
  No cell of these rows narrows 'for every input' (looked for: loops, veiled, ifaces, maps, wideKeys, modest, calm, conditions, laid).
  DERIVED. THE GIVEN ROWS OF THIS SEAT. 4 by the template 'for every input the law returns true; each argument reads behind the call as it read before'; 0 by the template 'total and deterministic' (their statements: YthcegdgffdppgadTotals.lean).
  GIVEN WITH THE SEED: the statements are not yours to turn. If you find one false, say at which input.
  Laid BY PROGRAM, IN A SANDBOX (cutbox-rows.mjs): the forced cells as the released guide's own fill.sh prints them over the translation a51dd30788c9afb2… (all of the seat's roots in one cut). By AI agents, Wed Nov 11 2026. No macro, syntax, notation, axiom, sorry.
-/
import Derived.Test.YthcegdgffdppgadChecked
import GoSem.Claim
import GoSem.ClaimJoined
import GoSem.ClaimMapViews
import Derived.JoinedTies
import Derived.KernelRfl
namespace Go.Proofs.Ythcegdgffdppgad
/- THE CELL 'sum', in the pinned program and in every row, IS THE sha256 OF THE DUMP (.gsa) THAT YthcegdgffdppgadProg.lean LOADS. Nothing in Lean hashes anything: it is a label: what it is worth is what the hold of that sum in a sandbox is worth. -/
noncomputable def Try.pinned : Pinned := { name := "ythcegdgffdppgad", sum := "a51dd30788c9afb29f462eecdfd4cd7e11262d4edd3575fec0f743b051581175", checked := Try.checked }
namespace Rows
def none {H : Type} : Left H := { results := [], args := [] }

/-- 'laws.FnExactShifted': WHATEVER THE INPUT: true; the input reads as it did. -/
def fnExactShiftedSpec : ChangeSpec := { name := "fnExactShifted", fn := fun _ => fun
  | [d1, d2, d3] => { results := [.lit (.bool true)], args := [d1, d2, d3] }
  | _ => none }
def fnExactShiftedRow : OpenClaim := { program := "ythcegdgffdppgad", sum := "a51dd30788c9afb29f462eecdfd4cd7e11262d4edd3575fec0f743b051581175", func := "loop.example/wholecheck/laws.FnExactShifted", spec := "fnExactShifted", apart := false }
def FnExactShiftedSaid : Prop := fnExactShiftedRow.holds Try.pinned (OpenSpec.ofChange fnExactShiftedSpec)

/-- ITS FALSE NEIGHBOUR: 'it returns false'. Refute it at one input. -/
def fnExactShiftedWrong : ChangeSpec := { name := "fnExactShifted", fn := fun _ => fun
  | [d1, d2, d3] => { results := [.lit (.bool false)], args := [d1, d2, d3] }
  | _ => none }
def FnExactShiftedWrongFalsely : Prop := fnExactShiftedRow.holds Try.pinned (OpenSpec.ofChange fnExactShiftedWrong)

/-- 'laws.FnExactJoined': WHATEVER THE INPUT: true; the input reads as it did. -/
def fnExactJoinedSpec : ChangeSpec := { name := "fnExactJoined", fn := fun _ => fun
  | [d1, d2, d3, d4] => { results := [.lit (.bool true)], args := [d1, d2, d3, d4] }
  | _ => none }
def fnExactJoinedRow : OpenClaim := { program := "ythcegdgffdppgad", sum := "a51dd30788c9afb29f462eecdfd4cd7e11262d4edd3575fec0f743b051581175", func := "loop.example/wholecheck/laws.FnExactJoined", spec := "fnExactJoined", apart := false }
def FnExactJoinedSaid : Prop := fnExactJoinedRow.holds Try.pinned (OpenSpec.ofChange fnExactJoinedSpec)

/-- ITS FALSE NEIGHBOUR: 'it returns false'. Refute it at one input. -/
def fnExactJoinedWrong : ChangeSpec := { name := "fnExactJoined", fn := fun _ => fun
  | [d1, d2, d3, d4] => { results := [.lit (.bool false)], args := [d1, d2, d3, d4] }
  | _ => none }
def FnExactJoinedWrongFalsely : Prop := fnExactJoinedRow.holds Try.pinned (OpenSpec.ofChange fnExactJoinedWrong)

/-- 'laws.FnExactUsedBy': WHATEVER THE INPUT: true; the input reads as it did. -/
def fnExactUsedBySpec : ChangeSpec := { name := "fnExactUsedBy", fn := fun _ => fun
  | [d1, d2] => { results := [.lit (.bool true)], args := [d1, d2] }
  | _ => none }
def fnExactUsedByRow : OpenClaim := { program := "ythcegdgffdppgad", sum := "a51dd30788c9afb29f462eecdfd4cd7e11262d4edd3575fec0f743b051581175", func := "loop.example/wholecheck/laws.FnExactUsedBy", spec := "fnExactUsedBy", apart := false }
def FnExactUsedBySaid : Prop := fnExactUsedByRow.holds Try.pinned (OpenSpec.ofChange fnExactUsedBySpec)

/-- ITS FALSE NEIGHBOUR: 'it returns false'. Refute it at one input. -/
def fnExactUsedByWrong : ChangeSpec := { name := "fnExactUsedBy", fn := fun _ => fun
  | [d1, d2] => { results := [.lit (.bool false)], args := [d1, d2] }
  | _ => none }
def FnExactUsedByWrongFalsely : Prop := fnExactUsedByRow.holds Try.pinned (OpenSpec.ofChange fnExactUsedByWrong)

/-- 'laws.FnExactContrary': WHATEVER THE INPUT: true; the input reads as it did. -/
def fnExactContrarySpec : ChangeSpec := { name := "fnExactContrary", fn := fun _ => fun
  | [d1, d2] => { results := [.lit (.bool true)], args := [d1, d2] }
  | _ => none }
def fnExactContraryRow : OpenClaim := { program := "ythcegdgffdppgad", sum := "a51dd30788c9afb29f462eecdfd4cd7e11262d4edd3575fec0f743b051581175", func := "loop.example/wholecheck/laws.FnExactContrary", spec := "fnExactContrary", apart := false }
def FnExactContrarySaid : Prop := fnExactContraryRow.holds Try.pinned (OpenSpec.ofChange fnExactContrarySpec)

/-- ITS FALSE NEIGHBOUR: 'it returns false'. Refute it at one input. -/
def fnExactContraryWrong : ChangeSpec := { name := "fnExactContrary", fn := fun _ => fun
  | [d1, d2] => { results := [.lit (.bool false)], args := [d1, d2] }
  | _ => none }
def FnExactContraryWrongFalsely : Prop := fnExactContraryRow.holds Try.pinned (OpenSpec.ofChange fnExactContraryWrong)

/- THE SECOND FORM. 'bulk': how many values and letters a reading holds, each counted each time it is reached (what is shared counts as often as it is met; a slice's spare places count too). A statement '..UptoSaid' is the law's where the arguments, and the package variables that the reading takes, are together of bulk at most 1048576: NARROWER than '..Said'. Prove '..Said' where nothing that the law and all that it calls make is longer than what came in: it says more and counts as full. Else prove '..UptoSaid'. A law counts once. -/
mutual
def uptoBulk {H : Type} : DataW H → Nat
  | .lit (.string bytes) => bytes.length + 1
  | .lit _ => 1
  | .nil => 1
  | .ptr d => uptoBulk d + 1
  | .slice elems spare => uptoBulkAll elems + uptoBulkAll spare + 1
  | .agg parts => uptoBulkAll parts + 1
  | .iface _ d => uptoBulk d + 1
  | .map entries => uptoBulkEntries entries + 1
  | .held _ => 1
def uptoBulkAll {H : Type} : List (DataW H) → Nat
  | [] => 0
  | d :: r => uptoBulk d + uptoBulkAll r
def uptoBulkEntries {H : Type} : List (Lit × DataW H) → Nat
  | [] => 0
  | x :: r => uptoBulkEntry x + uptoBulkEntries r
def uptoBulkEntry {H : Type} : Lit × DataW H → Nat
  | (.string bytes, d) => bytes.length + uptoBulk d + 1
  | (_, d) => uptoBulk d + 1
 end
def uptoSmall : (H : Type) → List (DataW H) → Bool := fun _ ds => decide (uptoBulkAll ds ≤ 1048576)
def OpenSpec.upto (s : _root_.Go.ChangeSpec) : _root_.Go.OpenSpec := { _root_.Go.OpenSpec.ofChange s with cond := some uptoSmall }

/-- 'laws.FnExactShifted', WHERE WHAT IT READS IS OF BULK AT MOST 1048576: true; the input reads as it did. -/
def fnExactShiftedUptoRow : OpenClaim := { program := "ythcegdgffdppgad", sum := "a51dd30788c9afb29f462eecdfd4cd7e11262d4edd3575fec0f743b051581175", func := "loop.example/wholecheck/laws.FnExactShifted", spec := "fnExactShifted", apart := false, narrowed := true }
def FnExactShiftedUptoSaid : Prop := fnExactShiftedUptoRow.holds Try.pinned (OpenSpec.upto fnExactShiftedSpec)

/-- 'laws.FnExactJoined', WHERE WHAT IT READS IS OF BULK AT MOST 1048576: true; the input reads as it did. -/
def fnExactJoinedUptoRow : OpenClaim := { program := "ythcegdgffdppgad", sum := "a51dd30788c9afb29f462eecdfd4cd7e11262d4edd3575fec0f743b051581175", func := "loop.example/wholecheck/laws.FnExactJoined", spec := "fnExactJoined", apart := false, narrowed := true }
def FnExactJoinedUptoSaid : Prop := fnExactJoinedUptoRow.holds Try.pinned (OpenSpec.upto fnExactJoinedSpec)

/-- 'laws.FnExactUsedBy', WHERE WHAT IT READS IS OF BULK AT MOST 1048576: true; the input reads as it did. -/
def fnExactUsedByUptoRow : OpenClaim := { program := "ythcegdgffdppgad", sum := "a51dd30788c9afb29f462eecdfd4cd7e11262d4edd3575fec0f743b051581175", func := "loop.example/wholecheck/laws.FnExactUsedBy", spec := "fnExactUsedBy", apart := false, narrowed := true }
def FnExactUsedByUptoSaid : Prop := fnExactUsedByUptoRow.holds Try.pinned (OpenSpec.upto fnExactUsedBySpec)

/-- 'laws.FnExactContrary', WHERE WHAT IT READS IS OF BULK AT MOST 1048576: true; the input reads as it did. -/
def fnExactContraryUptoRow : OpenClaim := { program := "ythcegdgffdppgad", sum := "a51dd30788c9afb29f462eecdfd4cd7e11262d4edd3575fec0f743b051581175", func := "loop.example/wholecheck/laws.FnExactContrary", spec := "fnExactContrary", apart := false, narrowed := true }
def FnExactContraryUptoSaid : Prop := fnExactContraryUptoRow.holds Try.pinned (OpenSpec.upto fnExactContrarySpec)

end Rows
end Go.Proofs.Ythcegdgffdppgad
