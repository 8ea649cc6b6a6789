/-
  No cell of these rows narrows 'for every input' (looked for: loops, veiled, ifaces, maps, wideKeys, modest, calm, conditions, laid).
  DERIVED. THE GIVEN ROWS OF THIS SEAT. 12 by the template 'for every input the law returns true; each argument reads behind the call as it read before'; 0 by the template 'total and deterministic' (their statements: YtbjkjoicecmmpacTotals.lean).
  GIVEN WITH THE SEED: the statements are not yours to turn. If you find one false, say at which input.
  Laid BY PROGRAM, IN A SANDBOX (cutbox-rows.mjs): the forced cells as the released guide's own fill.sh prints them over the translation 433077678b2cc3b9… (all of the seat's roots in one cut). By AI agents, Wed Nov 11 2026. No macro, syntax, notation, axiom, sorry.
-/
import Derived.Test.YtbjkjoicecmmpacChecked
import GoSem.Claim
import GoSem.ClaimJoined
import GoSem.ClaimMapViews
import Derived.JoinedTies
import Derived.KernelRfl
namespace Go.Proofs.Ytbjkjoicecmmpac
/- THE CELL 'sum', in the pinned program and in every row, IS THE sha256 OF THE DUMP (.gsa) THAT YtbjkjoicecmmpacProg.lean LOADS. Nothing in Lean hashes anything: it is a label: what it is worth is what the hold of that sum in a sandbox is worth. -/
noncomputable def Try.pinned : Pinned := { name := "ytbjkjoicecmmpac", sum := "433077678b2cc3b9b5520b49ae09f65d5e863096993cd4aaaea8ff7becb43f95", checked := Try.checked }
namespace Rows
def none {H : Type} : Left H := { results := [], args := [] }

/-- 'laws.FnExactForksOf': WHATEVER THE INPUT: true; the input reads as it did. -/
def fnExactForksOfSpec : ChangeSpec := { name := "fnExactForksOf", fn := fun _ => fun
  | [d1, d2] => { results := [.lit (.bool true)], args := [d1, d2] }
  | _ => none }
def fnExactForksOfRow : OpenClaim := { program := "ytbjkjoicecmmpac", sum := "433077678b2cc3b9b5520b49ae09f65d5e863096993cd4aaaea8ff7becb43f95", func := "loop.example/wholecheck/laws.FnExactForksOf", spec := "fnExactForksOf", plainKeys := false, apart := false }
def FnExactForksOfSaid : Prop := fnExactForksOfRow.holds Try.pinned (OpenSpec.ofChange fnExactForksOfSpec)

/-- ITS FALSE NEIGHBOUR: 'it returns false'. Refute it at one input. -/
def fnExactForksOfWrong : ChangeSpec := { name := "fnExactForksOf", fn := fun _ => fun
  | [d1, d2] => { results := [.lit (.bool false)], args := [d1, d2] }
  | _ => none }
def FnExactForksOfWrongFalsely : Prop := fnExactForksOfRow.holds Try.pinned (OpenSpec.ofChange fnExactForksOfWrong)

/-- 'laws.FnExactGuessedOf': WHATEVER THE INPUT: true; the input reads as it did. -/
def fnExactGuessedOfSpec : ChangeSpec := { name := "fnExactGuessedOf", fn := fun _ => fun
  | [d1, d2] => { results := [.lit (.bool true)], args := [d1, d2] }
  | _ => none }
def fnExactGuessedOfRow : OpenClaim := { program := "ytbjkjoicecmmpac", sum := "433077678b2cc3b9b5520b49ae09f65d5e863096993cd4aaaea8ff7becb43f95", func := "loop.example/wholecheck/laws.FnExactGuessedOf", spec := "fnExactGuessedOf", plainKeys := false, apart := false }
def FnExactGuessedOfSaid : Prop := fnExactGuessedOfRow.holds Try.pinned (OpenSpec.ofChange fnExactGuessedOfSpec)

/-- ITS FALSE NEIGHBOUR: 'it returns false'. Refute it at one input. -/
def fnExactGuessedOfWrong : ChangeSpec := { name := "fnExactGuessedOf", fn := fun _ => fun
  | [d1, d2] => { results := [.lit (.bool false)], args := [d1, d2] }
  | _ => none }
def FnExactGuessedOfWrongFalsely : Prop := fnExactGuessedOfRow.holds Try.pinned (OpenSpec.ofChange fnExactGuessedOfWrong)

/-- 'laws.FnExactTrueIn': WHATEVER THE INPUT: true; the input reads as it did. -/
def fnExactTrueInSpec : ChangeSpec := { name := "fnExactTrueIn", fn := fun _ => fun
  | [d1, d2] => { results := [.lit (.bool true)], args := [d1, d2] }
  | _ => none }
def fnExactTrueInRow : OpenClaim := { program := "ytbjkjoicecmmpac", sum := "433077678b2cc3b9b5520b49ae09f65d5e863096993cd4aaaea8ff7becb43f95", func := "loop.example/wholecheck/laws.FnExactTrueIn", spec := "fnExactTrueIn", unfollowed := true, recurses := true, plainKeys := false, apart := false }
def FnExactTrueInSaid : Prop := fnExactTrueInRow.holds Try.pinned (OpenSpec.ofChange fnExactTrueInSpec)

/-- ITS FALSE NEIGHBOUR: 'it returns false'. Refute it at one input. -/
def fnExactTrueInWrong : ChangeSpec := { name := "fnExactTrueIn", fn := fun _ => fun
  | [d1, d2] => { results := [.lit (.bool false)], args := [d1, d2] }
  | _ => none }
def FnExactTrueInWrongFalsely : Prop := fnExactTrueInRow.holds Try.pinned (OpenSpec.ofChange fnExactTrueInWrong)

/-- 'laws.FnExactInputsOf': WHATEVER THE INPUT: true; the input reads as it did. -/
def fnExactInputsOfSpec : ChangeSpec := { name := "fnExactInputsOf", fn := fun _ => fun
  | [d1, d2] => { results := [.lit (.bool true)], args := [d1, d2] }
  | _ => none }
def fnExactInputsOfRow : OpenClaim := { program := "ytbjkjoicecmmpac", sum := "433077678b2cc3b9b5520b49ae09f65d5e863096993cd4aaaea8ff7becb43f95", func := "loop.example/wholecheck/laws.FnExactInputsOf", spec := "fnExactInputsOf", unfollowed := true, recurses := true, plainKeys := false, apart := false }
def FnExactInputsOfSaid : Prop := fnExactInputsOfRow.holds Try.pinned (OpenSpec.ofChange fnExactInputsOfSpec)

/-- ITS FALSE NEIGHBOUR: 'it returns false'. Refute it at one input. -/
def fnExactInputsOfWrong : ChangeSpec := { name := "fnExactInputsOf", fn := fun _ => fun
  | [d1, d2] => { results := [.lit (.bool false)], args := [d1, d2] }
  | _ => none }
def FnExactInputsOfWrongFalsely : Prop := fnExactInputsOfRow.holds Try.pinned (OpenSpec.ofChange fnExactInputsOfWrong)

/-- 'laws.FnExactNeedsInputs': WHATEVER THE INPUT: true; the input reads as it did. -/
def fnExactNeedsInputsSpec : ChangeSpec := { name := "fnExactNeedsInputs", fn := fun _ => fun
  | [d1, d2] => { results := [.lit (.bool true)], args := [d1, d2] }
  | _ => none }
def fnExactNeedsInputsRow : OpenClaim := { program := "ytbjkjoicecmmpac", sum := "433077678b2cc3b9b5520b49ae09f65d5e863096993cd4aaaea8ff7becb43f95", func := "loop.example/wholecheck/laws.FnExactNeedsInputs", spec := "fnExactNeedsInputs", plainKeys := false, apart := false }
def FnExactNeedsInputsSaid : Prop := fnExactNeedsInputsRow.holds Try.pinned (OpenSpec.ofChange fnExactNeedsInputsSpec)

/-- ITS FALSE NEIGHBOUR: 'it returns false'. Refute it at one input. -/
def fnExactNeedsInputsWrong : ChangeSpec := { name := "fnExactNeedsInputs", fn := fun _ => fun
  | [d1, d2] => { results := [.lit (.bool false)], args := [d1, d2] }
  | _ => none }
def FnExactNeedsInputsWrongFalsely : Prop := fnExactNeedsInputsRow.holds Try.pinned (OpenSpec.ofChange fnExactNeedsInputsWrong)

/-- 'laws.FnCubeMeet': WHATEVER THE INPUT: true; the input reads as it did. -/
def fnCubeMeetSpec : ChangeSpec := { name := "fnCubeMeet", fn := fun _ => fun
  | [d] => { results := [.lit (.bool true)], args := [d] }
  | _ => none }
def fnCubeMeetRow : OpenClaim := { program := "ytbjkjoicecmmpac", sum := "433077678b2cc3b9b5520b49ae09f65d5e863096993cd4aaaea8ff7becb43f95", func := "loop.example/wholecheck/laws.FnCubeMeet", spec := "fnCubeMeet", unfollowed := true, recurses := true, plainKeys := false, apart := false }
def FnCubeMeetSaid : Prop := fnCubeMeetRow.holds Try.pinned (OpenSpec.ofChange fnCubeMeetSpec)

/-- ITS FALSE NEIGHBOUR: 'it returns false'. Refute it at one input. -/
def fnCubeMeetWrong : ChangeSpec := { name := "fnCubeMeet", fn := fun _ => fun
  | [d] => { results := [.lit (.bool false)], args := [d] }
  | _ => none }
def FnCubeMeetWrongFalsely : Prop := fnCubeMeetRow.holds Try.pinned (OpenSpec.ofChange fnCubeMeetWrong)

/-- 'laws.FnExactDiagramValue': WHATEVER THE INPUT: true; the input reads as it did. -/
def fnExactDiagramValueSpec : ChangeSpec := { name := "fnExactDiagramValue", fn := fun _ => fun
  | [d1, d2, d3] => { results := [.lit (.bool true)], args := [d1, d2, d3] }
  | _ => none }
def fnExactDiagramValueRow : OpenClaim := { program := "ytbjkjoicecmmpac", sum := "433077678b2cc3b9b5520b49ae09f65d5e863096993cd4aaaea8ff7becb43f95", func := "loop.example/wholecheck/laws.FnExactDiagramValue", spec := "fnExactDiagramValue", unfollowed := true, recurses := true, plainKeys := false, apart := false }
def FnExactDiagramValueSaid : Prop := fnExactDiagramValueRow.holds Try.pinned (OpenSpec.ofChange fnExactDiagramValueSpec)

/-- ITS FALSE NEIGHBOUR: 'it returns false'. Refute it at one input. -/
def fnExactDiagramValueWrong : ChangeSpec := { name := "fnExactDiagramValue", fn := fun _ => fun
  | [d1, d2, d3] => { results := [.lit (.bool false)], args := [d1, d2, d3] }
  | _ => none }
def FnExactDiagramValueWrongFalsely : Prop := fnExactDiagramValueRow.holds Try.pinned (OpenSpec.ofChange fnExactDiagramValueWrong)

/-- 'laws.FnExactShifted': WHATEVER THE INPUT: true; the input reads as it did. -/
def fnExactShiftedSpec : ChangeSpec := { name := "fnExactShifted", fn := fun _ => fun
  | [d1, d2, d3] => { results := [.lit (.bool true)], args := [d1, d2, d3] }
  | _ => none }
def fnExactShiftedRow : OpenClaim := { program := "ytbjkjoicecmmpac", sum := "433077678b2cc3b9b5520b49ae09f65d5e863096993cd4aaaea8ff7becb43f95", func := "loop.example/wholecheck/laws.FnExactShifted", spec := "fnExactShifted", plainKeys := false, apart := false }
def FnExactShiftedSaid : Prop := fnExactShiftedRow.holds Try.pinned (OpenSpec.ofChange fnExactShiftedSpec)

/-- ITS FALSE NEIGHBOUR: 'it returns false'. Refute it at one input. -/
def fnExactShiftedWrong : ChangeSpec := { name := "fnExactShifted", fn := fun _ => fun
  | [d1, d2, d3] => { results := [.lit (.bool false)], args := [d1, d2, d3] }
  | _ => none }
def FnExactShiftedWrongFalsely : Prop := fnExactShiftedRow.holds Try.pinned (OpenSpec.ofChange fnExactShiftedWrong)

/-- 'laws.FnExactNodeValues': WHATEVER THE INPUT: true; the input reads as it did. -/
def fnExactNodeValuesSpec : ChangeSpec := { name := "fnExactNodeValues", fn := fun _ => fun
  | [d1, d2] => { results := [.lit (.bool true)], args := [d1, d2] }
  | _ => none }
def fnExactNodeValuesRow : OpenClaim := { program := "ytbjkjoicecmmpac", sum := "433077678b2cc3b9b5520b49ae09f65d5e863096993cd4aaaea8ff7becb43f95", func := "loop.example/wholecheck/laws.FnExactNodeValues", spec := "fnExactNodeValues", unfollowed := true, recurses := true, plainKeys := false, apart := false }
def FnExactNodeValuesSaid : Prop := fnExactNodeValuesRow.holds Try.pinned (OpenSpec.ofChange fnExactNodeValuesSpec)

/-- ITS FALSE NEIGHBOUR: 'it returns false'. Refute it at one input. -/
def fnExactNodeValuesWrong : ChangeSpec := { name := "fnExactNodeValues", fn := fun _ => fun
  | [d1, d2] => { results := [.lit (.bool false)], args := [d1, d2] }
  | _ => none }
def FnExactNodeValuesWrongFalsely : Prop := fnExactNodeValuesRow.holds Try.pinned (OpenSpec.ofChange fnExactNodeValuesWrong)

/-- 'laws.FnExactDiagramRow': WHATEVER THE INPUT: true; the input reads as it did. -/
def fnExactDiagramRowSpec : ChangeSpec := { name := "fnExactDiagramRow", fn := fun _ => fun
  | [d1, d2] => { results := [.lit (.bool true)], args := [d1, d2] }
  | _ => none }
def fnExactDiagramRowRow : OpenClaim := { program := "ytbjkjoicecmmpac", sum := "433077678b2cc3b9b5520b49ae09f65d5e863096993cd4aaaea8ff7becb43f95", func := "loop.example/wholecheck/laws.FnExactDiagramRow", spec := "fnExactDiagramRow", plainKeys := false, apart := false }
def FnExactDiagramRowSaid : Prop := fnExactDiagramRowRow.holds Try.pinned (OpenSpec.ofChange fnExactDiagramRowSpec)

/-- ITS FALSE NEIGHBOUR: 'it returns false'. Refute it at one input. -/
def fnExactDiagramRowWrong : ChangeSpec := { name := "fnExactDiagramRow", fn := fun _ => fun
  | [d1, d2] => { results := [.lit (.bool false)], args := [d1, d2] }
  | _ => none }
def FnExactDiagramRowWrongFalsely : Prop := fnExactDiagramRowRow.holds Try.pinned (OpenSpec.ofChange fnExactDiagramRowWrong)

/-- 'laws.FnExactAtomsOf': WHATEVER THE INPUT: true; the input reads as it did. -/
def fnExactAtomsOfSpec : ChangeSpec := { name := "fnExactAtomsOf", fn := fun _ => fun
  | [d1, d2, d3] => { results := [.lit (.bool true)], args := [d1, d2, d3] }
  | _ => none }
def fnExactAtomsOfRow : OpenClaim := { program := "ytbjkjoicecmmpac", sum := "433077678b2cc3b9b5520b49ae09f65d5e863096993cd4aaaea8ff7becb43f95", func := "loop.example/wholecheck/laws.FnExactAtomsOf", spec := "fnExactAtomsOf", unfollowed := true, recurses := true, plainKeys := false, apart := false }
def FnExactAtomsOfSaid : Prop := fnExactAtomsOfRow.holds Try.pinned (OpenSpec.ofChange fnExactAtomsOfSpec)

/-- ITS FALSE NEIGHBOUR: 'it returns false'. Refute it at one input. -/
def fnExactAtomsOfWrong : ChangeSpec := { name := "fnExactAtomsOf", fn := fun _ => fun
  | [d1, d2, d3] => { results := [.lit (.bool false)], args := [d1, d2, d3] }
  | _ => none }
def FnExactAtomsOfWrongFalsely : Prop := fnExactAtomsOfRow.holds Try.pinned (OpenSpec.ofChange fnExactAtomsOfWrong)

/-- 'laws.FnAddAndOr': WHATEVER THE INPUT: true; the input reads as it did. -/
def fnAddAndOrSpec : ChangeSpec := { name := "fnAddAndOr", fn := fun _ => fun
  | [d] => { results := [.lit (.bool true)], args := [d] }
  | _ => none }
def fnAddAndOrRow : OpenClaim := { program := "ytbjkjoicecmmpac", sum := "433077678b2cc3b9b5520b49ae09f65d5e863096993cd4aaaea8ff7becb43f95", func := "loop.example/wholecheck/laws.FnAddAndOr", spec := "fnAddAndOr", plainKeys := false, apart := false }
def FnAddAndOrSaid : Prop := fnAddAndOrRow.holds Try.pinned (OpenSpec.ofChange fnAddAndOrSpec)

/-- ITS FALSE NEIGHBOUR: 'it returns false'. Refute it at one input. -/
def fnAddAndOrWrong : ChangeSpec := { name := "fnAddAndOr", fn := fun _ => fun
  | [d] => { results := [.lit (.bool false)], args := [d] }
  | _ => none }
def FnAddAndOrWrongFalsely : Prop := fnAddAndOrRow.holds Try.pinned (OpenSpec.ofChange fnAddAndOrWrong)

/- THE SECOND FORM. 'bulk': how many values and letters a reading holds, each counted each time it is reached (what is shared counts as often as it is met; a slice's spare places count too). A statement '..UptoSaid' is the law's where the arguments, and the package variables that the reading takes, are together of bulk at most 1048576: NARROWER than '..Said'. Prove '..Said' where nothing that the law and all that it calls make is longer than what came in: it says more and counts as full. Else prove '..UptoSaid'. A law counts once. -/
mutual
def uptoBulk {H : Type} : DataW H → Nat
  | .lit (.string bytes) => bytes.length + 1
  | .lit _ => 1
  | .nil => 1
  | .ptr d => uptoBulk d + 1
  | .slice elems spare => uptoBulkAll elems + uptoBulkAll spare + 1
  | .agg parts => uptoBulkAll parts + 1
  | .iface _ d => uptoBulk d + 1
  | .map entries => uptoBulkEntries entries + 1
  | .held _ => 1
def uptoBulkAll {H : Type} : List (DataW H) → Nat
  | [] => 0
  | d :: r => uptoBulk d + uptoBulkAll r
def uptoBulkEntries {H : Type} : List (Lit × DataW H) → Nat
  | [] => 0
  | x :: r => uptoBulkEntry x + uptoBulkEntries r
def uptoBulkEntry {H : Type} : Lit × DataW H → Nat
  | (.string bytes, d) => bytes.length + uptoBulk d + 1
  | (_, d) => uptoBulk d + 1
 end
def uptoSmall : (H : Type) → List (DataW H) → Bool := fun _ ds => decide (uptoBulkAll ds ≤ 1048576)
def OpenSpec.upto (s : _root_.Go.ChangeSpec) : _root_.Go.OpenSpec := { _root_.Go.OpenSpec.ofChange s with cond := some uptoSmall }

/-- 'laws.FnExactForksOf', WHERE WHAT IT READS IS OF BULK AT MOST 1048576: true; the input reads as it did. -/
def fnExactForksOfUptoRow : OpenClaim := { program := "ytbjkjoicecmmpac", sum := "433077678b2cc3b9b5520b49ae09f65d5e863096993cd4aaaea8ff7becb43f95", func := "loop.example/wholecheck/laws.FnExactForksOf", spec := "fnExactForksOf", plainKeys := false, apart := false, narrowed := true }
def FnExactForksOfUptoSaid : Prop := fnExactForksOfUptoRow.holds Try.pinned (OpenSpec.upto fnExactForksOfSpec)

/-- 'laws.FnExactGuessedOf', WHERE WHAT IT READS IS OF BULK AT MOST 1048576: true; the input reads as it did. -/
def fnExactGuessedOfUptoRow : OpenClaim := { program := "ytbjkjoicecmmpac", sum := "433077678b2cc3b9b5520b49ae09f65d5e863096993cd4aaaea8ff7becb43f95", func := "loop.example/wholecheck/laws.FnExactGuessedOf", spec := "fnExactGuessedOf", plainKeys := false, apart := false, narrowed := true }
def FnExactGuessedOfUptoSaid : Prop := fnExactGuessedOfUptoRow.holds Try.pinned (OpenSpec.upto fnExactGuessedOfSpec)

/-- 'laws.FnExactTrueIn', WHERE WHAT IT READS IS OF BULK AT MOST 1048576: true; the input reads as it did. -/
def fnExactTrueInUptoRow : OpenClaim := { program := "ytbjkjoicecmmpac", sum := "433077678b2cc3b9b5520b49ae09f65d5e863096993cd4aaaea8ff7becb43f95", func := "loop.example/wholecheck/laws.FnExactTrueIn", spec := "fnExactTrueIn", unfollowed := true, recurses := true, plainKeys := false, apart := false, narrowed := true }
def FnExactTrueInUptoSaid : Prop := fnExactTrueInUptoRow.holds Try.pinned (OpenSpec.upto fnExactTrueInSpec)

/-- 'laws.FnExactInputsOf', WHERE WHAT IT READS IS OF BULK AT MOST 1048576: true; the input reads as it did. -/
def fnExactInputsOfUptoRow : OpenClaim := { program := "ytbjkjoicecmmpac", sum := "433077678b2cc3b9b5520b49ae09f65d5e863096993cd4aaaea8ff7becb43f95", func := "loop.example/wholecheck/laws.FnExactInputsOf", spec := "fnExactInputsOf", unfollowed := true, recurses := true, plainKeys := false, apart := false, narrowed := true }
def FnExactInputsOfUptoSaid : Prop := fnExactInputsOfUptoRow.holds Try.pinned (OpenSpec.upto fnExactInputsOfSpec)

/-- 'laws.FnExactNeedsInputs', WHERE WHAT IT READS IS OF BULK AT MOST 1048576: true; the input reads as it did. -/
def fnExactNeedsInputsUptoRow : OpenClaim := { program := "ytbjkjoicecmmpac", sum := "433077678b2cc3b9b5520b49ae09f65d5e863096993cd4aaaea8ff7becb43f95", func := "loop.example/wholecheck/laws.FnExactNeedsInputs", spec := "fnExactNeedsInputs", plainKeys := false, apart := false, narrowed := true }
def FnExactNeedsInputsUptoSaid : Prop := fnExactNeedsInputsUptoRow.holds Try.pinned (OpenSpec.upto fnExactNeedsInputsSpec)

/-- 'laws.FnCubeMeet', WHERE WHAT IT READS IS OF BULK AT MOST 1048576: true; the input reads as it did. -/
def fnCubeMeetUptoRow : OpenClaim := { program := "ytbjkjoicecmmpac", sum := "433077678b2cc3b9b5520b49ae09f65d5e863096993cd4aaaea8ff7becb43f95", func := "loop.example/wholecheck/laws.FnCubeMeet", spec := "fnCubeMeet", unfollowed := true, recurses := true, plainKeys := false, apart := false, narrowed := true }
def FnCubeMeetUptoSaid : Prop := fnCubeMeetUptoRow.holds Try.pinned (OpenSpec.upto fnCubeMeetSpec)

/-- 'laws.FnExactDiagramValue', WHERE WHAT IT READS IS OF BULK AT MOST 1048576: true; the input reads as it did. -/
def fnExactDiagramValueUptoRow : OpenClaim := { program := "ytbjkjoicecmmpac", sum := "433077678b2cc3b9b5520b49ae09f65d5e863096993cd4aaaea8ff7becb43f95", func := "loop.example/wholecheck/laws.FnExactDiagramValue", spec := "fnExactDiagramValue", unfollowed := true, recurses := true, plainKeys := false, apart := false, narrowed := true }
def FnExactDiagramValueUptoSaid : Prop := fnExactDiagramValueUptoRow.holds Try.pinned (OpenSpec.upto fnExactDiagramValueSpec)

/-- 'laws.FnExactShifted', WHERE WHAT IT READS IS OF BULK AT MOST 1048576: true; the input reads as it did. -/
def fnExactShiftedUptoRow : OpenClaim := { program := "ytbjkjoicecmmpac", sum := "433077678b2cc3b9b5520b49ae09f65d5e863096993cd4aaaea8ff7becb43f95", func := "loop.example/wholecheck/laws.FnExactShifted", spec := "fnExactShifted", plainKeys := false, apart := false, narrowed := true }
def FnExactShiftedUptoSaid : Prop := fnExactShiftedUptoRow.holds Try.pinned (OpenSpec.upto fnExactShiftedSpec)

/-- 'laws.FnExactNodeValues', WHERE WHAT IT READS IS OF BULK AT MOST 1048576: true; the input reads as it did. -/
def fnExactNodeValuesUptoRow : OpenClaim := { program := "ytbjkjoicecmmpac", sum := "433077678b2cc3b9b5520b49ae09f65d5e863096993cd4aaaea8ff7becb43f95", func := "loop.example/wholecheck/laws.FnExactNodeValues", spec := "fnExactNodeValues", unfollowed := true, recurses := true, plainKeys := false, apart := false, narrowed := true }
def FnExactNodeValuesUptoSaid : Prop := fnExactNodeValuesUptoRow.holds Try.pinned (OpenSpec.upto fnExactNodeValuesSpec)

/-- 'laws.FnExactDiagramRow', WHERE WHAT IT READS IS OF BULK AT MOST 1048576: true; the input reads as it did. -/
def fnExactDiagramRowUptoRow : OpenClaim := { program := "ytbjkjoicecmmpac", sum := "433077678b2cc3b9b5520b49ae09f65d5e863096993cd4aaaea8ff7becb43f95", func := "loop.example/wholecheck/laws.FnExactDiagramRow", spec := "fnExactDiagramRow", plainKeys := false, apart := false, narrowed := true }
def FnExactDiagramRowUptoSaid : Prop := fnExactDiagramRowUptoRow.holds Try.pinned (OpenSpec.upto fnExactDiagramRowSpec)

/-- 'laws.FnExactAtomsOf', WHERE WHAT IT READS IS OF BULK AT MOST 1048576: true; the input reads as it did. -/
def fnExactAtomsOfUptoRow : OpenClaim := { program := "ytbjkjoicecmmpac", sum := "433077678b2cc3b9b5520b49ae09f65d5e863096993cd4aaaea8ff7becb43f95", func := "loop.example/wholecheck/laws.FnExactAtomsOf", spec := "fnExactAtomsOf", unfollowed := true, recurses := true, plainKeys := false, apart := false, narrowed := true }
def FnExactAtomsOfUptoSaid : Prop := fnExactAtomsOfUptoRow.holds Try.pinned (OpenSpec.upto fnExactAtomsOfSpec)

/-- 'laws.FnAddAndOr', WHERE WHAT IT READS IS OF BULK AT MOST 1048576: true; the input reads as it did. -/
def fnAddAndOrUptoRow : OpenClaim := { program := "ytbjkjoicecmmpac", sum := "433077678b2cc3b9b5520b49ae09f65d5e863096993cd4aaaea8ff7becb43f95", func := "loop.example/wholecheck/laws.FnAddAndOr", spec := "fnAddAndOr", plainKeys := false, apart := false, narrowed := true }
def FnAddAndOrUptoSaid : Prop := fnAddAndOrUptoRow.holds Try.pinned (OpenSpec.upto fnAddAndOrSpec)

end Rows
end Go.Proofs.Ytbjkjoicecmmpac
