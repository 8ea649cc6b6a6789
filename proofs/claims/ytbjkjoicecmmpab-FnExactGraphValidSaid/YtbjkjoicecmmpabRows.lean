/-
  No cell of these rows narrows 'for every input' (looked for: loops, veiled, ifaces, maps, wideKeys, modest, calm, conditions, laid).
  DERIVED. THE GIVEN ROWS OF THIS SEAT. 12 by the template 'for every input the law returns true; each argument reads behind the call as it read before'; 0 by the template 'total and deterministic' (their statements: YtbjkjoicecmmpabTotals.lean).
  GIVEN WITH THE SEED: the statements are not yours to turn. If you find one false, say at which input.
  Laid BY PROGRAM, IN A SANDBOX (cutbox-rows.mjs): the forced cells as the released guide's own fill.sh prints them over the translation 02f0b963ddd32d1d… (all of the seat's roots in one cut). By AI agents, Wed Nov 11 2026. No macro, syntax, notation, axiom, sorry.
-/
import Derived.Test.YtbjkjoicecmmpabChecked
import GoSem.Claim
import GoSem.ClaimJoined
import GoSem.ClaimMapViews
import Derived.JoinedTies
import Derived.KernelRfl
namespace Go.Proofs.Ytbjkjoicecmmpab
/- THE CELL 'sum', in the pinned program and in every row, IS THE sha256 OF THE DUMP (.gsa) THAT YtbjkjoicecmmpabProg.lean LOADS. Nothing in Lean hashes anything: it is a label: what it is worth is what the hold of that sum in a sandbox is worth. -/
noncomputable def Try.pinned : Pinned := { name := "ytbjkjoicecmmpab", sum := "02f0b963ddd32d1db3e39f88a74385a466859d042bb5441ea0a76189c1d013f5", checked := Try.checked }
namespace Rows
def none {H : Type} : Left H := { results := [], args := [] }

/-- 'laws.FnExactDiagramValid': WHATEVER THE INPUT: true; the input reads as it did. -/
def fnExactDiagramValidSpec : ChangeSpec := { name := "fnExactDiagramValid", fn := fun _ => fun
  | [d] => { results := [.lit (.bool true)], args := [d] }
  | _ => none }
def fnExactDiagramValidRow : OpenClaim := { program := "ytbjkjoicecmmpab", sum := "02f0b963ddd32d1db3e39f88a74385a466859d042bb5441ea0a76189c1d013f5", func := "loop.example/wholecheck/laws.FnExactDiagramValid", spec := "fnExactDiagramValid", plainKeys := false, apart := false }
def FnExactDiagramValidSaid : Prop := fnExactDiagramValidRow.holds Try.pinned (OpenSpec.ofChange fnExactDiagramValidSpec)

/-- ITS FALSE NEIGHBOUR: 'it returns false'. Refute it at one input. -/
def fnExactDiagramValidWrong : ChangeSpec := { name := "fnExactDiagramValid", fn := fun _ => fun
  | [d] => { results := [.lit (.bool false)], args := [d] }
  | _ => none }
def FnExactDiagramValidWrongFalsely : Prop := fnExactDiagramValidRow.holds Try.pinned (OpenSpec.ofChange fnExactDiagramValidWrong)

/-- 'laws.FnExactLassoAt': WHATEVER THE INPUT: true; the input reads as it did. -/
def fnExactLassoAtSpec : ChangeSpec := { name := "fnExactLassoAt", fn := fun _ => fun
  | [d1, d2, d3] => { results := [.lit (.bool true)], args := [d1, d2, d3] }
  | _ => none }
def fnExactLassoAtRow : OpenClaim := { program := "ytbjkjoicecmmpab", sum := "02f0b963ddd32d1db3e39f88a74385a466859d042bb5441ea0a76189c1d013f5", func := "loop.example/wholecheck/laws.FnExactLassoAt", spec := "fnExactLassoAt", plainKeys := false, apart := false }
def FnExactLassoAtSaid : Prop := fnExactLassoAtRow.holds Try.pinned (OpenSpec.ofChange fnExactLassoAtSpec)

/-- ITS FALSE NEIGHBOUR: 'it returns false'. Refute it at one input. -/
def fnExactLassoAtWrong : ChangeSpec := { name := "fnExactLassoAt", fn := fun _ => fun
  | [d1, d2, d3] => { results := [.lit (.bool false)], args := [d1, d2, d3] }
  | _ => none }
def FnExactLassoAtWrongFalsely : Prop := fnExactLassoAtRow.holds Try.pinned (OpenSpec.ofChange fnExactLassoAtWrong)

/-- 'laws.FnExactTermsValid': WHATEVER THE INPUT: true; the input reads as it did. -/
def fnExactTermsValidSpec : ChangeSpec := { name := "fnExactTermsValid", fn := fun _ => fun
  | [d1, d2] => { results := [.lit (.bool true)], args := [d1, d2] }
  | _ => none }
def fnExactTermsValidRow : OpenClaim := { program := "ytbjkjoicecmmpab", sum := "02f0b963ddd32d1db3e39f88a74385a466859d042bb5441ea0a76189c1d013f5", func := "loop.example/wholecheck/laws.FnExactTermsValid", spec := "fnExactTermsValid", plainKeys := false, apart := false }
def FnExactTermsValidSaid : Prop := fnExactTermsValidRow.holds Try.pinned (OpenSpec.ofChange fnExactTermsValidSpec)

/-- ITS FALSE NEIGHBOUR: 'it returns false'. Refute it at one input. -/
def fnExactTermsValidWrong : ChangeSpec := { name := "fnExactTermsValid", fn := fun _ => fun
  | [d1, d2] => { results := [.lit (.bool false)], args := [d1, d2] }
  | _ => none }
def FnExactTermsValidWrongFalsely : Prop := fnExactTermsValidRow.holds Try.pinned (OpenSpec.ofChange fnExactTermsValidWrong)

/-- 'laws.FnExactSameRun': WHATEVER THE INPUT: true; the input reads as it did. -/
def fnExactSameRunSpec : ChangeSpec := { name := "fnExactSameRun", fn := fun _ => fun
  | [d1, d2, d3, d4] => { results := [.lit (.bool true)], args := [d1, d2, d3, d4] }
  | _ => none }
def fnExactSameRunRow : OpenClaim := { program := "ytbjkjoicecmmpab", sum := "02f0b963ddd32d1db3e39f88a74385a466859d042bb5441ea0a76189c1d013f5", func := "loop.example/wholecheck/laws.FnExactSameRun", spec := "fnExactSameRun", plainKeys := false, apart := false }
def FnExactSameRunSaid : Prop := fnExactSameRunRow.holds Try.pinned (OpenSpec.ofChange fnExactSameRunSpec)

/-- ITS FALSE NEIGHBOUR: 'it returns false'. Refute it at one input. -/
def fnExactSameRunWrong : ChangeSpec := { name := "fnExactSameRun", fn := fun _ => fun
  | [d1, d2, d3, d4] => { results := [.lit (.bool false)], args := [d1, d2, d3, d4] }
  | _ => none }
def FnExactSameRunWrongFalsely : Prop := fnExactSameRunRow.holds Try.pinned (OpenSpec.ofChange fnExactSameRunWrong)

/-- 'laws.FnExactClausesValid': WHATEVER THE INPUT: true; the input reads as it did. -/
def fnExactClausesValidSpec : ChangeSpec := { name := "fnExactClausesValid", fn := fun _ => fun
  | [d] => { results := [.lit (.bool true)], args := [d] }
  | _ => none }
def fnExactClausesValidRow : OpenClaim := { program := "ytbjkjoicecmmpab", sum := "02f0b963ddd32d1db3e39f88a74385a466859d042bb5441ea0a76189c1d013f5", func := "loop.example/wholecheck/laws.FnExactClausesValid", spec := "fnExactClausesValid", unfollowed := true, recurses := true, plainKeys := false, apart := false }
def FnExactClausesValidSaid : Prop := fnExactClausesValidRow.holds Try.pinned (OpenSpec.ofChange fnExactClausesValidSpec)

/-- ITS FALSE NEIGHBOUR: 'it returns false'. Refute it at one input. -/
def fnExactClausesValidWrong : ChangeSpec := { name := "fnExactClausesValid", fn := fun _ => fun
  | [d] => { results := [.lit (.bool false)], args := [d] }
  | _ => none }
def FnExactClausesValidWrongFalsely : Prop := fnExactClausesValidRow.holds Try.pinned (OpenSpec.ofChange fnExactClausesValidWrong)

/-- 'laws.FnExactGuessCount': WHATEVER THE INPUT: true; the input reads as it did. -/
def fnExactGuessCountSpec : ChangeSpec := { name := "fnExactGuessCount", fn := fun _ => fun
  | [d1, d2] => { results := [.lit (.bool true)], args := [d1, d2] }
  | _ => none }
def fnExactGuessCountRow : OpenClaim := { program := "ytbjkjoicecmmpab", sum := "02f0b963ddd32d1db3e39f88a74385a466859d042bb5441ea0a76189c1d013f5", func := "loop.example/wholecheck/laws.FnExactGuessCount", spec := "fnExactGuessCount", plainKeys := false, apart := false }
def FnExactGuessCountSaid : Prop := fnExactGuessCountRow.holds Try.pinned (OpenSpec.ofChange fnExactGuessCountSpec)

/-- ITS FALSE NEIGHBOUR: 'it returns false'. Refute it at one input. -/
def fnExactGuessCountWrong : ChangeSpec := { name := "fnExactGuessCount", fn := fun _ => fun
  | [d1, d2] => { results := [.lit (.bool false)], args := [d1, d2] }
  | _ => none }
def FnExactGuessCountWrongFalsely : Prop := fnExactGuessCountRow.holds Try.pinned (OpenSpec.ofChange fnExactGuessCountWrong)

/-- 'laws.FnExactSameEdges': WHATEVER THE INPUT: true; the input reads as it did. -/
def fnExactSameEdgesSpec : ChangeSpec := { name := "fnExactSameEdges", fn := fun _ => fun
  | [d1, d2, d3] => { results := [.lit (.bool true)], args := [d1, d2, d3] }
  | _ => none }
def fnExactSameEdgesRow : OpenClaim := { program := "ytbjkjoicecmmpab", sum := "02f0b963ddd32d1db3e39f88a74385a466859d042bb5441ea0a76189c1d013f5", func := "loop.example/wholecheck/laws.FnExactSameEdges", spec := "fnExactSameEdges", plainKeys := false, apart := false }
def FnExactSameEdgesSaid : Prop := fnExactSameEdgesRow.holds Try.pinned (OpenSpec.ofChange fnExactSameEdgesSpec)

/-- ITS FALSE NEIGHBOUR: 'it returns false'. Refute it at one input. -/
def fnExactSameEdgesWrong : ChangeSpec := { name := "fnExactSameEdges", fn := fun _ => fun
  | [d1, d2, d3] => { results := [.lit (.bool false)], args := [d1, d2, d3] }
  | _ => none }
def FnExactSameEdgesWrongFalsely : Prop := fnExactSameEdgesRow.holds Try.pinned (OpenSpec.ofChange fnExactSameEdgesWrong)

/-- 'laws.FnExactDiagramCount': WHATEVER THE INPUT: true; the input reads as it did. -/
def fnExactDiagramCountSpec : ChangeSpec := { name := "fnExactDiagramCount", fn := fun _ => fun
  | [d1, d2] => { results := [.lit (.bool true)], args := [d1, d2] }
  | _ => none }
def fnExactDiagramCountRow : OpenClaim := { program := "ytbjkjoicecmmpab", sum := "02f0b963ddd32d1db3e39f88a74385a466859d042bb5441ea0a76189c1d013f5", func := "loop.example/wholecheck/laws.FnExactDiagramCount", spec := "fnExactDiagramCount", unfollowed := true, recurses := true, plainKeys := false, apart := false }
def FnExactDiagramCountSaid : Prop := fnExactDiagramCountRow.holds Try.pinned (OpenSpec.ofChange fnExactDiagramCountSpec)

/-- ITS FALSE NEIGHBOUR: 'it returns false'. Refute it at one input. -/
def fnExactDiagramCountWrong : ChangeSpec := { name := "fnExactDiagramCount", fn := fun _ => fun
  | [d1, d2] => { results := [.lit (.bool false)], args := [d1, d2] }
  | _ => none }
def FnExactDiagramCountWrongFalsely : Prop := fnExactDiagramCountRow.holds Try.pinned (OpenSpec.ofChange fnExactDiagramCountWrong)

/-- 'laws.FnExactGraphValid': WHATEVER THE INPUT: true; the input reads as it did. -/
def fnExactGraphValidSpec : ChangeSpec := { name := "fnExactGraphValid", fn := fun _ => fun
  | [d1, d2] => { results := [.lit (.bool true)], args := [d1, d2] }
  | _ => none }
def fnExactGraphValidRow : OpenClaim := { program := "ytbjkjoicecmmpab", sum := "02f0b963ddd32d1db3e39f88a74385a466859d042bb5441ea0a76189c1d013f5", func := "loop.example/wholecheck/laws.FnExactGraphValid", spec := "fnExactGraphValid", unfollowed := true, recurses := true, plainKeys := false, apart := false }
def FnExactGraphValidSaid : Prop := fnExactGraphValidRow.holds Try.pinned (OpenSpec.ofChange fnExactGraphValidSpec)

/-- ITS FALSE NEIGHBOUR: 'it returns false'. Refute it at one input. -/
def fnExactGraphValidWrong : ChangeSpec := { name := "fnExactGraphValid", fn := fun _ => fun
  | [d1, d2] => { results := [.lit (.bool false)], args := [d1, d2] }
  | _ => none }
def FnExactGraphValidWrongFalsely : Prop := fnExactGraphValidRow.holds Try.pinned (OpenSpec.ofChange fnExactGraphValidWrong)

/-- 'laws.FnExactContrary': WHATEVER THE INPUT: true; the input reads as it did. -/
def fnExactContrarySpec : ChangeSpec := { name := "fnExactContrary", fn := fun _ => fun
  | [d1, d2] => { results := [.lit (.bool true)], args := [d1, d2] }
  | _ => none }
def fnExactContraryRow : OpenClaim := { program := "ytbjkjoicecmmpab", sum := "02f0b963ddd32d1db3e39f88a74385a466859d042bb5441ea0a76189c1d013f5", func := "loop.example/wholecheck/laws.FnExactContrary", spec := "fnExactContrary", plainKeys := false, apart := false }
def FnExactContrarySaid : Prop := fnExactContraryRow.holds Try.pinned (OpenSpec.ofChange fnExactContrarySpec)

/-- ITS FALSE NEIGHBOUR: 'it returns false'. Refute it at one input. -/
def fnExactContraryWrong : ChangeSpec := { name := "fnExactContrary", fn := fun _ => fun
  | [d1, d2] => { results := [.lit (.bool false)], args := [d1, d2] }
  | _ => none }
def FnExactContraryWrongFalsely : Prop := fnExactContraryRow.holds Try.pinned (OpenSpec.ofChange fnExactContraryWrong)

/-- 'laws.FnExactKindsOf': WHATEVER THE INPUT: true; the input reads as it did. -/
def fnExactKindsOfSpec : ChangeSpec := { name := "fnExactKindsOf", fn := fun _ => fun
  | [d1, d2] => { results := [.lit (.bool true)], args := [d1, d2] }
  | _ => none }
def fnExactKindsOfRow : OpenClaim := { program := "ytbjkjoicecmmpab", sum := "02f0b963ddd32d1db3e39f88a74385a466859d042bb5441ea0a76189c1d013f5", func := "loop.example/wholecheck/laws.FnExactKindsOf", spec := "fnExactKindsOf", plainKeys := false, apart := false }
def FnExactKindsOfSaid : Prop := fnExactKindsOfRow.holds Try.pinned (OpenSpec.ofChange fnExactKindsOfSpec)

/-- ITS FALSE NEIGHBOUR: 'it returns false'. Refute it at one input. -/
def fnExactKindsOfWrong : ChangeSpec := { name := "fnExactKindsOf", fn := fun _ => fun
  | [d1, d2] => { results := [.lit (.bool false)], args := [d1, d2] }
  | _ => none }
def FnExactKindsOfWrongFalsely : Prop := fnExactKindsOfRow.holds Try.pinned (OpenSpec.ofChange fnExactKindsOfWrong)

/-- 'laws.FnExactEdgeValue': WHATEVER THE INPUT: true; the input reads as it did. -/
def fnExactEdgeValueSpec : ChangeSpec := { name := "fnExactEdgeValue", fn := fun _ => fun
  | [d1, d2, d3] => { results := [.lit (.bool true)], args := [d1, d2, d3] }
  | _ => none }
def fnExactEdgeValueRow : OpenClaim := { program := "ytbjkjoicecmmpab", sum := "02f0b963ddd32d1db3e39f88a74385a466859d042bb5441ea0a76189c1d013f5", func := "loop.example/wholecheck/laws.FnExactEdgeValue", spec := "fnExactEdgeValue", unfollowed := true, recurses := true, plainKeys := false, apart := false }
def FnExactEdgeValueSaid : Prop := fnExactEdgeValueRow.holds Try.pinned (OpenSpec.ofChange fnExactEdgeValueSpec)

/-- ITS FALSE NEIGHBOUR: 'it returns false'. Refute it at one input. -/
def fnExactEdgeValueWrong : ChangeSpec := { name := "fnExactEdgeValue", fn := fun _ => fun
  | [d1, d2, d3] => { results := [.lit (.bool false)], args := [d1, d2, d3] }
  | _ => none }
def FnExactEdgeValueWrongFalsely : Prop := fnExactEdgeValueRow.holds Try.pinned (OpenSpec.ofChange fnExactEdgeValueWrong)

/- THE SECOND FORM. 'bulk': how many values and letters a reading holds, each counted each time it is reached (what is shared counts as often as it is met; a slice's spare places count too). A statement '..UptoSaid' is the law's where the arguments, and the package variables that the reading takes, are together of bulk at most 1048576: NARROWER than '..Said'. Prove '..Said' where nothing that the law and all that it calls make is longer than what came in: it says more and counts as full. Else prove '..UptoSaid'. A law counts once. -/
mutual
def uptoBulk {H : Type} : DataW H → Nat
  | .lit (.string bytes) => bytes.length + 1
  | .lit _ => 1
  | .nil => 1
  | .ptr d => uptoBulk d + 1
  | .slice elems spare => uptoBulkAll elems + uptoBulkAll spare + 1
  | .agg parts => uptoBulkAll parts + 1
  | .iface _ d => uptoBulk d + 1
  | .map entries => uptoBulkEntries entries + 1
  | .held _ => 1
def uptoBulkAll {H : Type} : List (DataW H) → Nat
  | [] => 0
  | d :: r => uptoBulk d + uptoBulkAll r
def uptoBulkEntries {H : Type} : List (Lit × DataW H) → Nat
  | [] => 0
  | x :: r => uptoBulkEntry x + uptoBulkEntries r
def uptoBulkEntry {H : Type} : Lit × DataW H → Nat
  | (.string bytes, d) => bytes.length + uptoBulk d + 1
  | (_, d) => uptoBulk d + 1
 end
def uptoSmall : (H : Type) → List (DataW H) → Bool := fun _ ds => decide (uptoBulkAll ds ≤ 1048576)
def OpenSpec.upto (s : _root_.Go.ChangeSpec) : _root_.Go.OpenSpec := { _root_.Go.OpenSpec.ofChange s with cond := some uptoSmall }

/-- 'laws.FnExactDiagramValid', WHERE WHAT IT READS IS OF BULK AT MOST 1048576: true; the input reads as it did. -/
def fnExactDiagramValidUptoRow : OpenClaim := { program := "ytbjkjoicecmmpab", sum := "02f0b963ddd32d1db3e39f88a74385a466859d042bb5441ea0a76189c1d013f5", func := "loop.example/wholecheck/laws.FnExactDiagramValid", spec := "fnExactDiagramValid", plainKeys := false, apart := false, narrowed := true }
def FnExactDiagramValidUptoSaid : Prop := fnExactDiagramValidUptoRow.holds Try.pinned (OpenSpec.upto fnExactDiagramValidSpec)

/-- 'laws.FnExactLassoAt', WHERE WHAT IT READS IS OF BULK AT MOST 1048576: true; the input reads as it did. -/
def fnExactLassoAtUptoRow : OpenClaim := { program := "ytbjkjoicecmmpab", sum := "02f0b963ddd32d1db3e39f88a74385a466859d042bb5441ea0a76189c1d013f5", func := "loop.example/wholecheck/laws.FnExactLassoAt", spec := "fnExactLassoAt", plainKeys := false, apart := false, narrowed := true }
def FnExactLassoAtUptoSaid : Prop := fnExactLassoAtUptoRow.holds Try.pinned (OpenSpec.upto fnExactLassoAtSpec)

/-- 'laws.FnExactTermsValid', WHERE WHAT IT READS IS OF BULK AT MOST 1048576: true; the input reads as it did. -/
def fnExactTermsValidUptoRow : OpenClaim := { program := "ytbjkjoicecmmpab", sum := "02f0b963ddd32d1db3e39f88a74385a466859d042bb5441ea0a76189c1d013f5", func := "loop.example/wholecheck/laws.FnExactTermsValid", spec := "fnExactTermsValid", plainKeys := false, apart := false, narrowed := true }
def FnExactTermsValidUptoSaid : Prop := fnExactTermsValidUptoRow.holds Try.pinned (OpenSpec.upto fnExactTermsValidSpec)

/-- 'laws.FnExactSameRun', WHERE WHAT IT READS IS OF BULK AT MOST 1048576: true; the input reads as it did. -/
def fnExactSameRunUptoRow : OpenClaim := { program := "ytbjkjoicecmmpab", sum := "02f0b963ddd32d1db3e39f88a74385a466859d042bb5441ea0a76189c1d013f5", func := "loop.example/wholecheck/laws.FnExactSameRun", spec := "fnExactSameRun", plainKeys := false, apart := false, narrowed := true }
def FnExactSameRunUptoSaid : Prop := fnExactSameRunUptoRow.holds Try.pinned (OpenSpec.upto fnExactSameRunSpec)

/-- 'laws.FnExactClausesValid', WHERE WHAT IT READS IS OF BULK AT MOST 1048576: true; the input reads as it did. -/
def fnExactClausesValidUptoRow : OpenClaim := { program := "ytbjkjoicecmmpab", sum := "02f0b963ddd32d1db3e39f88a74385a466859d042bb5441ea0a76189c1d013f5", func := "loop.example/wholecheck/laws.FnExactClausesValid", spec := "fnExactClausesValid", unfollowed := true, recurses := true, plainKeys := false, apart := false, narrowed := true }
def FnExactClausesValidUptoSaid : Prop := fnExactClausesValidUptoRow.holds Try.pinned (OpenSpec.upto fnExactClausesValidSpec)

/-- 'laws.FnExactGuessCount', WHERE WHAT IT READS IS OF BULK AT MOST 1048576: true; the input reads as it did. -/
def fnExactGuessCountUptoRow : OpenClaim := { program := "ytbjkjoicecmmpab", sum := "02f0b963ddd32d1db3e39f88a74385a466859d042bb5441ea0a76189c1d013f5", func := "loop.example/wholecheck/laws.FnExactGuessCount", spec := "fnExactGuessCount", plainKeys := false, apart := false, narrowed := true }
def FnExactGuessCountUptoSaid : Prop := fnExactGuessCountUptoRow.holds Try.pinned (OpenSpec.upto fnExactGuessCountSpec)

/-- 'laws.FnExactSameEdges', WHERE WHAT IT READS IS OF BULK AT MOST 1048576: true; the input reads as it did. -/
def fnExactSameEdgesUptoRow : OpenClaim := { program := "ytbjkjoicecmmpab", sum := "02f0b963ddd32d1db3e39f88a74385a466859d042bb5441ea0a76189c1d013f5", func := "loop.example/wholecheck/laws.FnExactSameEdges", spec := "fnExactSameEdges", plainKeys := false, apart := false, narrowed := true }
def FnExactSameEdgesUptoSaid : Prop := fnExactSameEdgesUptoRow.holds Try.pinned (OpenSpec.upto fnExactSameEdgesSpec)

/-- 'laws.FnExactDiagramCount', WHERE WHAT IT READS IS OF BULK AT MOST 1048576: true; the input reads as it did. -/
def fnExactDiagramCountUptoRow : OpenClaim := { program := "ytbjkjoicecmmpab", sum := "02f0b963ddd32d1db3e39f88a74385a466859d042bb5441ea0a76189c1d013f5", func := "loop.example/wholecheck/laws.FnExactDiagramCount", spec := "fnExactDiagramCount", unfollowed := true, recurses := true, plainKeys := false, apart := false, narrowed := true }
def FnExactDiagramCountUptoSaid : Prop := fnExactDiagramCountUptoRow.holds Try.pinned (OpenSpec.upto fnExactDiagramCountSpec)

/-- 'laws.FnExactGraphValid', WHERE WHAT IT READS IS OF BULK AT MOST 1048576: true; the input reads as it did. -/
def fnExactGraphValidUptoRow : OpenClaim := { program := "ytbjkjoicecmmpab", sum := "02f0b963ddd32d1db3e39f88a74385a466859d042bb5441ea0a76189c1d013f5", func := "loop.example/wholecheck/laws.FnExactGraphValid", spec := "fnExactGraphValid", unfollowed := true, recurses := true, plainKeys := false, apart := false, narrowed := true }
def FnExactGraphValidUptoSaid : Prop := fnExactGraphValidUptoRow.holds Try.pinned (OpenSpec.upto fnExactGraphValidSpec)

/-- 'laws.FnExactContrary', WHERE WHAT IT READS IS OF BULK AT MOST 1048576: true; the input reads as it did. -/
def fnExactContraryUptoRow : OpenClaim := { program := "ytbjkjoicecmmpab", sum := "02f0b963ddd32d1db3e39f88a74385a466859d042bb5441ea0a76189c1d013f5", func := "loop.example/wholecheck/laws.FnExactContrary", spec := "fnExactContrary", plainKeys := false, apart := false, narrowed := true }
def FnExactContraryUptoSaid : Prop := fnExactContraryUptoRow.holds Try.pinned (OpenSpec.upto fnExactContrarySpec)

/-- 'laws.FnExactKindsOf', WHERE WHAT IT READS IS OF BULK AT MOST 1048576: true; the input reads as it did. -/
def fnExactKindsOfUptoRow : OpenClaim := { program := "ytbjkjoicecmmpab", sum := "02f0b963ddd32d1db3e39f88a74385a466859d042bb5441ea0a76189c1d013f5", func := "loop.example/wholecheck/laws.FnExactKindsOf", spec := "fnExactKindsOf", plainKeys := false, apart := false, narrowed := true }
def FnExactKindsOfUptoSaid : Prop := fnExactKindsOfUptoRow.holds Try.pinned (OpenSpec.upto fnExactKindsOfSpec)

/-- 'laws.FnExactEdgeValue', WHERE WHAT IT READS IS OF BULK AT MOST 1048576: true; the input reads as it did. -/
def fnExactEdgeValueUptoRow : OpenClaim := { program := "ytbjkjoicecmmpab", sum := "02f0b963ddd32d1db3e39f88a74385a466859d042bb5441ea0a76189c1d013f5", func := "loop.example/wholecheck/laws.FnExactEdgeValue", spec := "fnExactEdgeValue", unfollowed := true, recurses := true, plainKeys := false, apart := false, narrowed := true }
def FnExactEdgeValueUptoSaid : Prop := fnExactEdgeValueUptoRow.holds Try.pinned (OpenSpec.upto fnExactEdgeValueSpec)

end Rows
end Go.Proofs.Ytbjkjoicecmmpab
