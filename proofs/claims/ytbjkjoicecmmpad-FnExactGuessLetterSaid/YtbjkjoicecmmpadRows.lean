/-
  No cell of these rows narrows 'for every input' (looked for: loops, veiled, ifaces, maps, wideKeys, modest, calm, conditions, laid).
  DERIVED. THE GIVEN ROWS OF THIS SEAT. 7 by the template 'for every input the law returns true; each argument reads behind the call as it read before'; 0 by the template 'total and deterministic' (their statements: YtbjkjoicecmmpadTotals.lean).
  GIVEN WITH THE SEED: the statements are not yours to turn. If you find one false, say at which input.
  Laid BY PROGRAM, IN A SANDBOX (cutbox-rows.mjs): the forced cells as the released guide's own fill.sh prints them over the translation 0e51aff265b2f092… (all of the seat's roots in one cut). By AI agents, Wed Nov 11 2026. No macro, syntax, notation, axiom, sorry.
-/
import Derived.Test.YtbjkjoicecmmpadChecked
import GoSem.Claim
import GoSem.ClaimJoined
import GoSem.ClaimMapViews
import Derived.JoinedTies
import Derived.KernelRfl
namespace Go.Proofs.Ytbjkjoicecmmpad
/- THE CELL 'sum', in the pinned program and in every row, IS THE sha256 OF THE DUMP (.gsa) THAT YtbjkjoicecmmpadProg.lean LOADS. Nothing in Lean hashes anything: it is a label: what it is worth is what the hold of that sum in a sandbox is worth. -/
noncomputable def Try.pinned : Pinned := { name := "ytbjkjoicecmmpad", sum := "0e51aff265b2f092ca2f2bfefc646c19c9f0185c4822e3e5909e1952e89c19be", checked := Try.checked }
namespace Rows
def none {H : Type} : Left H := { results := [], args := [] }

/-- 'laws.FnExactGuessLetter': WHATEVER THE INPUT: true; the input reads as it did. -/
def fnExactGuessLetterSpec : ChangeSpec := { name := "fnExactGuessLetter", fn := fun _ => fun
  | [d1, d2, d3] => { results := [.lit (.bool true)], args := [d1, d2, d3] }
  | _ => none }
def fnExactGuessLetterRow : OpenClaim := { program := "ytbjkjoicecmmpad", sum := "0e51aff265b2f092ca2f2bfefc646c19c9f0185c4822e3e5909e1952e89c19be", func := "loop.example/wholecheck/laws.FnExactGuessLetter", spec := "fnExactGuessLetter", plainKeys := false, apart := false }
def FnExactGuessLetterSaid : Prop := fnExactGuessLetterRow.holds Try.pinned (OpenSpec.ofChange fnExactGuessLetterSpec)

/-- ITS FALSE NEIGHBOUR: 'it returns false'. Refute it at one input. -/
def fnExactGuessLetterWrong : ChangeSpec := { name := "fnExactGuessLetter", fn := fun _ => fun
  | [d1, d2, d3] => { results := [.lit (.bool false)], args := [d1, d2, d3] }
  | _ => none }
def FnExactGuessLetterWrongFalsely : Prop := fnExactGuessLetterRow.holds Try.pinned (OpenSpec.ofChange fnExactGuessLetterWrong)

/-- 'laws.FnExactJoined': WHATEVER THE INPUT: true; the input reads as it did. -/
def fnExactJoinedSpec : ChangeSpec := { name := "fnExactJoined", fn := fun _ => fun
  | [d1, d2, d3, d4] => { results := [.lit (.bool true)], args := [d1, d2, d3, d4] }
  | _ => none }
def fnExactJoinedRow : OpenClaim := { program := "ytbjkjoicecmmpad", sum := "0e51aff265b2f092ca2f2bfefc646c19c9f0185c4822e3e5909e1952e89c19be", func := "loop.example/wholecheck/laws.FnExactJoined", spec := "fnExactJoined", plainKeys := false, apart := false }
def FnExactJoinedSaid : Prop := fnExactJoinedRow.holds Try.pinned (OpenSpec.ofChange fnExactJoinedSpec)

/-- ITS FALSE NEIGHBOUR: 'it returns false'. Refute it at one input. -/
def fnExactJoinedWrong : ChangeSpec := { name := "fnExactJoined", fn := fun _ => fun
  | [d1, d2, d3, d4] => { results := [.lit (.bool false)], args := [d1, d2, d3, d4] }
  | _ => none }
def FnExactJoinedWrongFalsely : Prop := fnExactJoinedRow.holds Try.pinned (OpenSpec.ofChange fnExactJoinedWrong)

/-- 'laws.FnExactDiagramUses': WHATEVER THE INPUT: true; the input reads as it did. -/
def fnExactDiagramUsesSpec : ChangeSpec := { name := "fnExactDiagramUses", fn := fun _ => fun
  | [d1, d2] => { results := [.lit (.bool true)], args := [d1, d2] }
  | _ => none }
def fnExactDiagramUsesRow : OpenClaim := { program := "ytbjkjoicecmmpad", sum := "0e51aff265b2f092ca2f2bfefc646c19c9f0185c4822e3e5909e1952e89c19be", func := "loop.example/wholecheck/laws.FnExactDiagramUses", spec := "fnExactDiagramUses", plainKeys := false, apart := false }
def FnExactDiagramUsesSaid : Prop := fnExactDiagramUsesRow.holds Try.pinned (OpenSpec.ofChange fnExactDiagramUsesSpec)

/-- ITS FALSE NEIGHBOUR: 'it returns false'. Refute it at one input. -/
def fnExactDiagramUsesWrong : ChangeSpec := { name := "fnExactDiagramUses", fn := fun _ => fun
  | [d1, d2] => { results := [.lit (.bool false)], args := [d1, d2] }
  | _ => none }
def FnExactDiagramUsesWrongFalsely : Prop := fnExactDiagramUsesRow.holds Try.pinned (OpenSpec.ofChange fnExactDiagramUsesWrong)

/-- 'laws.FnExactUsedBy': WHATEVER THE INPUT: true; the input reads as it did. -/
def fnExactUsedBySpec : ChangeSpec := { name := "fnExactUsedBy", fn := fun _ => fun
  | [d1, d2] => { results := [.lit (.bool true)], args := [d1, d2] }
  | _ => none }
def fnExactUsedByRow : OpenClaim := { program := "ytbjkjoicecmmpad", sum := "0e51aff265b2f092ca2f2bfefc646c19c9f0185c4822e3e5909e1952e89c19be", func := "loop.example/wholecheck/laws.FnExactUsedBy", spec := "fnExactUsedBy", plainKeys := false, apart := false }
def FnExactUsedBySaid : Prop := fnExactUsedByRow.holds Try.pinned (OpenSpec.ofChange fnExactUsedBySpec)

/-- ITS FALSE NEIGHBOUR: 'it returns false'. Refute it at one input. -/
def fnExactUsedByWrong : ChangeSpec := { name := "fnExactUsedBy", fn := fun _ => fun
  | [d1, d2] => { results := [.lit (.bool false)], args := [d1, d2] }
  | _ => none }
def FnExactUsedByWrongFalsely : Prop := fnExactUsedByRow.holds Try.pinned (OpenSpec.ofChange fnExactUsedByWrong)

/-- 'laws.FnExactAddAnd': WHATEVER THE INPUT: true; the input reads as it did. -/
def fnExactAddAndSpec : ChangeSpec := { name := "fnExactAddAnd", fn := fun _ => fun
  | [d1, d2, d3] => { results := [.lit (.bool true)], args := [d1, d2, d3] }
  | _ => none }
def fnExactAddAndRow : OpenClaim := { program := "ytbjkjoicecmmpad", sum := "0e51aff265b2f092ca2f2bfefc646c19c9f0185c4822e3e5909e1952e89c19be", func := "loop.example/wholecheck/laws.FnExactAddAnd", spec := "fnExactAddAnd", plainKeys := false, apart := false }
def FnExactAddAndSaid : Prop := fnExactAddAndRow.holds Try.pinned (OpenSpec.ofChange fnExactAddAndSpec)

/-- ITS FALSE NEIGHBOUR: 'it returns false'. Refute it at one input. -/
def fnExactAddAndWrong : ChangeSpec := { name := "fnExactAddAnd", fn := fun _ => fun
  | [d1, d2, d3] => { results := [.lit (.bool false)], args := [d1, d2, d3] }
  | _ => none }
def FnExactAddAndWrongFalsely : Prop := fnExactAddAndRow.holds Try.pinned (OpenSpec.ofChange fnExactAddAndWrong)

/-- 'laws.FnExactCountModels': WHATEVER THE INPUT: true; the input reads as it did. -/
def fnExactCountModelsSpec : ChangeSpec := { name := "fnExactCountModels", fn := fun _ => fun
  | [d] => { results := [.lit (.bool true)], args := [d] }
  | _ => none }
def fnExactCountModelsRow : OpenClaim := { program := "ytbjkjoicecmmpad", sum := "0e51aff265b2f092ca2f2bfefc646c19c9f0185c4822e3e5909e1952e89c19be", func := "loop.example/wholecheck/laws.FnExactCountModels", spec := "fnExactCountModels", unfollowed := true, recurses := true, plainKeys := false, apart := false }
def FnExactCountModelsSaid : Prop := fnExactCountModelsRow.holds Try.pinned (OpenSpec.ofChange fnExactCountModelsSpec)

/-- ITS FALSE NEIGHBOUR: 'it returns false'. Refute it at one input. -/
def fnExactCountModelsWrong : ChangeSpec := { name := "fnExactCountModels", fn := fun _ => fun
  | [d] => { results := [.lit (.bool false)], args := [d] }
  | _ => none }
def FnExactCountModelsWrongFalsely : Prop := fnExactCountModelsRow.holds Try.pinned (OpenSpec.ofChange fnExactCountModelsWrong)

/-- 'laws.FnSameEdges': WHATEVER THE INPUT: true; the input reads as it did. -/
def fnSameEdgesSpec : ChangeSpec := { name := "fnSameEdges", fn := fun _ => fun
  | [d] => { results := [.lit (.bool true)], args := [d] }
  | _ => none }
def fnSameEdgesRow : OpenClaim := { program := "ytbjkjoicecmmpad", sum := "0e51aff265b2f092ca2f2bfefc646c19c9f0185c4822e3e5909e1952e89c19be", func := "loop.example/wholecheck/laws.FnSameEdges", spec := "fnSameEdges", unfollowed := true, recurses := true, plainKeys := false, apart := false }
def FnSameEdgesSaid : Prop := fnSameEdgesRow.holds Try.pinned (OpenSpec.ofChange fnSameEdgesSpec)

/-- ITS FALSE NEIGHBOUR: 'it returns false'. Refute it at one input. -/
def fnSameEdgesWrong : ChangeSpec := { name := "fnSameEdges", fn := fun _ => fun
  | [d] => { results := [.lit (.bool false)], args := [d] }
  | _ => none }
def FnSameEdgesWrongFalsely : Prop := fnSameEdgesRow.holds Try.pinned (OpenSpec.ofChange fnSameEdgesWrong)

/- THE SECOND FORM. 'bulk': how many values and letters a reading holds, each counted each time it is reached (what is shared counts as often as it is met; a slice's spare places count too). A statement '..UptoSaid' is the law's where the arguments, and the package variables that the reading takes, are together of bulk at most 1048576: NARROWER than '..Said'. Prove '..Said' where nothing that the law and all that it calls make is longer than what came in: it says more and counts as full. Else prove '..UptoSaid'. A law counts once. -/
mutual
def uptoBulk {H : Type} : DataW H → Nat
  | .lit (.string bytes) => bytes.length + 1
  | .lit _ => 1
  | .nil => 1
  | .ptr d => uptoBulk d + 1
  | .slice elems spare => uptoBulkAll elems + uptoBulkAll spare + 1
  | .agg parts => uptoBulkAll parts + 1
  | .iface _ d => uptoBulk d + 1
  | .map entries => uptoBulkEntries entries + 1
  | .held _ => 1
def uptoBulkAll {H : Type} : List (DataW H) → Nat
  | [] => 0
  | d :: r => uptoBulk d + uptoBulkAll r
def uptoBulkEntries {H : Type} : List (Lit × DataW H) → Nat
  | [] => 0
  | x :: r => uptoBulkEntry x + uptoBulkEntries r
def uptoBulkEntry {H : Type} : Lit × DataW H → Nat
  | (.string bytes, d) => bytes.length + uptoBulk d + 1
  | (_, d) => uptoBulk d + 1
 end
def uptoSmall : (H : Type) → List (DataW H) → Bool := fun _ ds => decide (uptoBulkAll ds ≤ 1048576)
def OpenSpec.upto (s : _root_.Go.ChangeSpec) : _root_.Go.OpenSpec := { _root_.Go.OpenSpec.ofChange s with cond := some uptoSmall }

/-- 'laws.FnExactGuessLetter', WHERE WHAT IT READS IS OF BULK AT MOST 1048576: true; the input reads as it did. -/
def fnExactGuessLetterUptoRow : OpenClaim := { program := "ytbjkjoicecmmpad", sum := "0e51aff265b2f092ca2f2bfefc646c19c9f0185c4822e3e5909e1952e89c19be", func := "loop.example/wholecheck/laws.FnExactGuessLetter", spec := "fnExactGuessLetter", plainKeys := false, apart := false, narrowed := true }
def FnExactGuessLetterUptoSaid : Prop := fnExactGuessLetterUptoRow.holds Try.pinned (OpenSpec.upto fnExactGuessLetterSpec)

/-- 'laws.FnExactJoined', WHERE WHAT IT READS IS OF BULK AT MOST 1048576: true; the input reads as it did. -/
def fnExactJoinedUptoRow : OpenClaim := { program := "ytbjkjoicecmmpad", sum := "0e51aff265b2f092ca2f2bfefc646c19c9f0185c4822e3e5909e1952e89c19be", func := "loop.example/wholecheck/laws.FnExactJoined", spec := "fnExactJoined", plainKeys := false, apart := false, narrowed := true }
def FnExactJoinedUptoSaid : Prop := fnExactJoinedUptoRow.holds Try.pinned (OpenSpec.upto fnExactJoinedSpec)

/-- 'laws.FnExactDiagramUses', WHERE WHAT IT READS IS OF BULK AT MOST 1048576: true; the input reads as it did. -/
def fnExactDiagramUsesUptoRow : OpenClaim := { program := "ytbjkjoicecmmpad", sum := "0e51aff265b2f092ca2f2bfefc646c19c9f0185c4822e3e5909e1952e89c19be", func := "loop.example/wholecheck/laws.FnExactDiagramUses", spec := "fnExactDiagramUses", plainKeys := false, apart := false, narrowed := true }
def FnExactDiagramUsesUptoSaid : Prop := fnExactDiagramUsesUptoRow.holds Try.pinned (OpenSpec.upto fnExactDiagramUsesSpec)

/-- 'laws.FnExactUsedBy', WHERE WHAT IT READS IS OF BULK AT MOST 1048576: true; the input reads as it did. -/
def fnExactUsedByUptoRow : OpenClaim := { program := "ytbjkjoicecmmpad", sum := "0e51aff265b2f092ca2f2bfefc646c19c9f0185c4822e3e5909e1952e89c19be", func := "loop.example/wholecheck/laws.FnExactUsedBy", spec := "fnExactUsedBy", plainKeys := false, apart := false, narrowed := true }
def FnExactUsedByUptoSaid : Prop := fnExactUsedByUptoRow.holds Try.pinned (OpenSpec.upto fnExactUsedBySpec)

/-- 'laws.FnExactAddAnd', WHERE WHAT IT READS IS OF BULK AT MOST 1048576: true; the input reads as it did. -/
def fnExactAddAndUptoRow : OpenClaim := { program := "ytbjkjoicecmmpad", sum := "0e51aff265b2f092ca2f2bfefc646c19c9f0185c4822e3e5909e1952e89c19be", func := "loop.example/wholecheck/laws.FnExactAddAnd", spec := "fnExactAddAnd", plainKeys := false, apart := false, narrowed := true }
def FnExactAddAndUptoSaid : Prop := fnExactAddAndUptoRow.holds Try.pinned (OpenSpec.upto fnExactAddAndSpec)

/-- 'laws.FnExactCountModels', WHERE WHAT IT READS IS OF BULK AT MOST 1048576: true; the input reads as it did. -/
def fnExactCountModelsUptoRow : OpenClaim := { program := "ytbjkjoicecmmpad", sum := "0e51aff265b2f092ca2f2bfefc646c19c9f0185c4822e3e5909e1952e89c19be", func := "loop.example/wholecheck/laws.FnExactCountModels", spec := "fnExactCountModels", unfollowed := true, recurses := true, plainKeys := false, apart := false, narrowed := true }
def FnExactCountModelsUptoSaid : Prop := fnExactCountModelsUptoRow.holds Try.pinned (OpenSpec.upto fnExactCountModelsSpec)

/-- 'laws.FnSameEdges', WHERE WHAT IT READS IS OF BULK AT MOST 1048576: true; the input reads as it did. -/
def fnSameEdgesUptoRow : OpenClaim := { program := "ytbjkjoicecmmpad", sum := "0e51aff265b2f092ca2f2bfefc646c19c9f0185c4822e3e5909e1952e89c19be", func := "loop.example/wholecheck/laws.FnSameEdges", spec := "fnSameEdges", unfollowed := true, recurses := true, plainKeys := false, apart := false, narrowed := true }
def FnSameEdgesUptoSaid : Prop := fnSameEdgesUptoRow.holds Try.pinned (OpenSpec.upto fnSameEdgesSpec)

end Rows
end Go.Proofs.Ytbjkjoicecmmpad
