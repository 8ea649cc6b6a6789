/-
  No cell of these rows narrows 'for every input' (looked for: loops, veiled, ifaces, maps, wideKeys, modest, calm, conditions, laid).
  DERIVED. THE GIVEN ROWS OF THIS SEAT. 6 by the template 'for every input the law returns true; each argument reads behind the call as it read before'; 0 by the template 'total and deterministic' (their statements: YthcegdgffdppgaaTotals.lean).
  GIVEN WITH THE SEED: the statements are not yours to turn. If you find one false, say at which input.
  Laid BY PROGRAM, IN A SANDBOX (cutbox-rows.mjs): the forced cells as the released guide's own fill.sh prints them over the translation b23de2d95dfcda25… (all of the seat's roots in one cut). By AI agents, Wed Nov 11 2026. No macro, syntax, notation, axiom, sorry.
-/
import Derived.Test.YthcegdgffdppgaaChecked
import GoSem.Claim
import GoSem.ClaimJoined
import GoSem.ClaimMapViews
import Derived.JoinedTies
import Derived.KernelRfl
namespace Go.Proofs.Ythcegdgffdppgaa
/- THE CELL 'sum', in the pinned program and in every row, IS THE sha256 OF THE DUMP (.gsa) THAT YthcegdgffdppgaaProg.lean LOADS. Nothing in Lean hashes anything: it is a label: what it is worth is what the hold of that sum in a sandbox is worth. -/
noncomputable def Try.pinned : Pinned := { name := "ythcegdgffdppgaa", sum := "b23de2d95dfcda257480fcc407c5b61e44450813e0293d6ca36eb216fcd046d5", checked := Try.checked }
namespace Rows
def none {H : Type} : Left H := { results := [], args := [] }

/-- 'laws.FnExactDiagramValid': WHATEVER THE INPUT: true; the input reads as it did. -/
def fnExactDiagramValidSpec : ChangeSpec := { name := "fnExactDiagramValid", fn := fun _ => fun
  | [d] => { results := [.lit (.bool true)], args := [d] }
  | _ => none }
def fnExactDiagramValidRow : OpenClaim := { program := "ythcegdgffdppgaa", sum := "b23de2d95dfcda257480fcc407c5b61e44450813e0293d6ca36eb216fcd046d5", func := "loop.example/wholecheck/laws.FnExactDiagramValid", spec := "fnExactDiagramValid", plainKeys := false, apart := false }
def FnExactDiagramValidSaid : Prop := fnExactDiagramValidRow.holds Try.pinned (OpenSpec.ofChange fnExactDiagramValidSpec)

/-- ITS FALSE NEIGHBOUR: 'it returns false'. Refute it at one input. -/
def fnExactDiagramValidWrong : ChangeSpec := { name := "fnExactDiagramValid", fn := fun _ => fun
  | [d] => { results := [.lit (.bool false)], args := [d] }
  | _ => none }
def FnExactDiagramValidWrongFalsely : Prop := fnExactDiagramValidRow.holds Try.pinned (OpenSpec.ofChange fnExactDiagramValidWrong)

/-- 'laws.FnExactDiagramCount': WHATEVER THE INPUT: true; the input reads as it did. -/
def fnExactDiagramCountSpec : ChangeSpec := { name := "fnExactDiagramCount", fn := fun _ => fun
  | [d1, d2] => { results := [.lit (.bool true)], args := [d1, d2] }
  | _ => none }
def fnExactDiagramCountRow : OpenClaim := { program := "ythcegdgffdppgaa", sum := "b23de2d95dfcda257480fcc407c5b61e44450813e0293d6ca36eb216fcd046d5", func := "loop.example/wholecheck/laws.FnExactDiagramCount", spec := "fnExactDiagramCount", unfollowed := true, recurses := true, plainKeys := false, apart := false }
def FnExactDiagramCountSaid : Prop := fnExactDiagramCountRow.holds Try.pinned (OpenSpec.ofChange fnExactDiagramCountSpec)

/-- ITS FALSE NEIGHBOUR: 'it returns false'. Refute it at one input. -/
def fnExactDiagramCountWrong : ChangeSpec := { name := "fnExactDiagramCount", fn := fun _ => fun
  | [d1, d2] => { results := [.lit (.bool false)], args := [d1, d2] }
  | _ => none }
def FnExactDiagramCountWrongFalsely : Prop := fnExactDiagramCountRow.holds Try.pinned (OpenSpec.ofChange fnExactDiagramCountWrong)

/-- 'laws.FnExactForksOf': WHATEVER THE INPUT: true; the input reads as it did. -/
def fnExactForksOfSpec : ChangeSpec := { name := "fnExactForksOf", fn := fun _ => fun
  | [d1, d2] => { results := [.lit (.bool true)], args := [d1, d2] }
  | _ => none }
def fnExactForksOfRow : OpenClaim := { program := "ythcegdgffdppgaa", sum := "b23de2d95dfcda257480fcc407c5b61e44450813e0293d6ca36eb216fcd046d5", func := "loop.example/wholecheck/laws.FnExactForksOf", spec := "fnExactForksOf", plainKeys := false, apart := false }
def FnExactForksOfSaid : Prop := fnExactForksOfRow.holds Try.pinned (OpenSpec.ofChange fnExactForksOfSpec)

/-- ITS FALSE NEIGHBOUR: 'it returns false'. Refute it at one input. -/
def fnExactForksOfWrong : ChangeSpec := { name := "fnExactForksOf", fn := fun _ => fun
  | [d1, d2] => { results := [.lit (.bool false)], args := [d1, d2] }
  | _ => none }
def FnExactForksOfWrongFalsely : Prop := fnExactForksOfRow.holds Try.pinned (OpenSpec.ofChange fnExactForksOfWrong)

/-- 'laws.FnExactDiagramValue': WHATEVER THE INPUT: true; the input reads as it did. -/
def fnExactDiagramValueSpec : ChangeSpec := { name := "fnExactDiagramValue", fn := fun _ => fun
  | [d1, d2, d3] => { results := [.lit (.bool true)], args := [d1, d2, d3] }
  | _ => none }
def fnExactDiagramValueRow : OpenClaim := { program := "ythcegdgffdppgaa", sum := "b23de2d95dfcda257480fcc407c5b61e44450813e0293d6ca36eb216fcd046d5", func := "loop.example/wholecheck/laws.FnExactDiagramValue", spec := "fnExactDiagramValue", unfollowed := true, recurses := true, plainKeys := false, apart := false }
def FnExactDiagramValueSaid : Prop := fnExactDiagramValueRow.holds Try.pinned (OpenSpec.ofChange fnExactDiagramValueSpec)

/-- ITS FALSE NEIGHBOUR: 'it returns false'. Refute it at one input. -/
def fnExactDiagramValueWrong : ChangeSpec := { name := "fnExactDiagramValue", fn := fun _ => fun
  | [d1, d2, d3] => { results := [.lit (.bool false)], args := [d1, d2, d3] }
  | _ => none }
def FnExactDiagramValueWrongFalsely : Prop := fnExactDiagramValueRow.holds Try.pinned (OpenSpec.ofChange fnExactDiagramValueWrong)

/-- 'laws.FnExactDiagramRow': WHATEVER THE INPUT: true; the input reads as it did. -/
def fnExactDiagramRowSpec : ChangeSpec := { name := "fnExactDiagramRow", fn := fun _ => fun
  | [d1, d2] => { results := [.lit (.bool true)], args := [d1, d2] }
  | _ => none }
def fnExactDiagramRowRow : OpenClaim := { program := "ythcegdgffdppgaa", sum := "b23de2d95dfcda257480fcc407c5b61e44450813e0293d6ca36eb216fcd046d5", func := "loop.example/wholecheck/laws.FnExactDiagramRow", spec := "fnExactDiagramRow", plainKeys := false, apart := false }
def FnExactDiagramRowSaid : Prop := fnExactDiagramRowRow.holds Try.pinned (OpenSpec.ofChange fnExactDiagramRowSpec)

/-- ITS FALSE NEIGHBOUR: 'it returns false'. Refute it at one input. -/
def fnExactDiagramRowWrong : ChangeSpec := { name := "fnExactDiagramRow", fn := fun _ => fun
  | [d1, d2] => { results := [.lit (.bool false)], args := [d1, d2] }
  | _ => none }
def FnExactDiagramRowWrongFalsely : Prop := fnExactDiagramRowRow.holds Try.pinned (OpenSpec.ofChange fnExactDiagramRowWrong)

/-- 'laws.FnExactDiagramUses': WHATEVER THE INPUT: true; the input reads as it did. -/
def fnExactDiagramUsesSpec : ChangeSpec := { name := "fnExactDiagramUses", fn := fun _ => fun
  | [d1, d2] => { results := [.lit (.bool true)], args := [d1, d2] }
  | _ => none }
def fnExactDiagramUsesRow : OpenClaim := { program := "ythcegdgffdppgaa", sum := "b23de2d95dfcda257480fcc407c5b61e44450813e0293d6ca36eb216fcd046d5", func := "loop.example/wholecheck/laws.FnExactDiagramUses", spec := "fnExactDiagramUses", plainKeys := false, apart := false }
def FnExactDiagramUsesSaid : Prop := fnExactDiagramUsesRow.holds Try.pinned (OpenSpec.ofChange fnExactDiagramUsesSpec)

/-- ITS FALSE NEIGHBOUR: 'it returns false'. Refute it at one input. -/
def fnExactDiagramUsesWrong : ChangeSpec := { name := "fnExactDiagramUses", fn := fun _ => fun
  | [d1, d2] => { results := [.lit (.bool false)], args := [d1, d2] }
  | _ => none }
def FnExactDiagramUsesWrongFalsely : Prop := fnExactDiagramUsesRow.holds Try.pinned (OpenSpec.ofChange fnExactDiagramUsesWrong)

/- THE SECOND FORM. 'bulk': how many values and letters a reading holds, each counted each time it is reached (what is shared counts as often as it is met; a slice's spare places count too). A statement '..UptoSaid' is the law's where the arguments, and the package variables that the reading takes, are together of bulk at most 1048576: NARROWER than '..Said'. Prove '..Said' where nothing that the law and all that it calls make is longer than what came in: it says more and counts as full. Else prove '..UptoSaid'. A law counts once. -/
mutual
def uptoBulk {H : Type} : DataW H → Nat
  | .lit (.string bytes) => bytes.length + 1
  | .lit _ => 1
  | .nil => 1
  | .ptr d => uptoBulk d + 1
  | .slice elems spare => uptoBulkAll elems + uptoBulkAll spare + 1
  | .agg parts => uptoBulkAll parts + 1
  | .iface _ d => uptoBulk d + 1
  | .map entries => uptoBulkEntries entries + 1
  | .held _ => 1
def uptoBulkAll {H : Type} : List (DataW H) → Nat
  | [] => 0
  | d :: r => uptoBulk d + uptoBulkAll r
def uptoBulkEntries {H : Type} : List (Lit × DataW H) → Nat
  | [] => 0
  | x :: r => uptoBulkEntry x + uptoBulkEntries r
def uptoBulkEntry {H : Type} : Lit × DataW H → Nat
  | (.string bytes, d) => bytes.length + uptoBulk d + 1
  | (_, d) => uptoBulk d + 1
 end
def uptoSmall : (H : Type) → List (DataW H) → Bool := fun _ ds => decide (uptoBulkAll ds ≤ 1048576)
def OpenSpec.upto (s : _root_.Go.ChangeSpec) : _root_.Go.OpenSpec := { _root_.Go.OpenSpec.ofChange s with cond := some uptoSmall }

/-- 'laws.FnExactDiagramValid', WHERE WHAT IT READS IS OF BULK AT MOST 1048576: true; the input reads as it did. -/
def fnExactDiagramValidUptoRow : OpenClaim := { program := "ythcegdgffdppgaa", sum := "b23de2d95dfcda257480fcc407c5b61e44450813e0293d6ca36eb216fcd046d5", func := "loop.example/wholecheck/laws.FnExactDiagramValid", spec := "fnExactDiagramValid", plainKeys := false, apart := false, narrowed := true }
def FnExactDiagramValidUptoSaid : Prop := fnExactDiagramValidUptoRow.holds Try.pinned (OpenSpec.upto fnExactDiagramValidSpec)

/-- 'laws.FnExactDiagramCount', WHERE WHAT IT READS IS OF BULK AT MOST 1048576: true; the input reads as it did. -/
def fnExactDiagramCountUptoRow : OpenClaim := { program := "ythcegdgffdppgaa", sum := "b23de2d95dfcda257480fcc407c5b61e44450813e0293d6ca36eb216fcd046d5", func := "loop.example/wholecheck/laws.FnExactDiagramCount", spec := "fnExactDiagramCount", unfollowed := true, recurses := true, plainKeys := false, apart := false, narrowed := true }
def FnExactDiagramCountUptoSaid : Prop := fnExactDiagramCountUptoRow.holds Try.pinned (OpenSpec.upto fnExactDiagramCountSpec)

/-- 'laws.FnExactForksOf', WHERE WHAT IT READS IS OF BULK AT MOST 1048576: true; the input reads as it did. -/
def fnExactForksOfUptoRow : OpenClaim := { program := "ythcegdgffdppgaa", sum := "b23de2d95dfcda257480fcc407c5b61e44450813e0293d6ca36eb216fcd046d5", func := "loop.example/wholecheck/laws.FnExactForksOf", spec := "fnExactForksOf", plainKeys := false, apart := false, narrowed := true }
def FnExactForksOfUptoSaid : Prop := fnExactForksOfUptoRow.holds Try.pinned (OpenSpec.upto fnExactForksOfSpec)

/-- 'laws.FnExactDiagramValue', WHERE WHAT IT READS IS OF BULK AT MOST 1048576: true; the input reads as it did. -/
def fnExactDiagramValueUptoRow : OpenClaim := { program := "ythcegdgffdppgaa", sum := "b23de2d95dfcda257480fcc407c5b61e44450813e0293d6ca36eb216fcd046d5", func := "loop.example/wholecheck/laws.FnExactDiagramValue", spec := "fnExactDiagramValue", unfollowed := true, recurses := true, plainKeys := false, apart := false, narrowed := true }
def FnExactDiagramValueUptoSaid : Prop := fnExactDiagramValueUptoRow.holds Try.pinned (OpenSpec.upto fnExactDiagramValueSpec)

/-- 'laws.FnExactDiagramRow', WHERE WHAT IT READS IS OF BULK AT MOST 1048576: true; the input reads as it did. -/
def fnExactDiagramRowUptoRow : OpenClaim := { program := "ythcegdgffdppgaa", sum := "b23de2d95dfcda257480fcc407c5b61e44450813e0293d6ca36eb216fcd046d5", func := "loop.example/wholecheck/laws.FnExactDiagramRow", spec := "fnExactDiagramRow", plainKeys := false, apart := false, narrowed := true }
def FnExactDiagramRowUptoSaid : Prop := fnExactDiagramRowUptoRow.holds Try.pinned (OpenSpec.upto fnExactDiagramRowSpec)

/-- 'laws.FnExactDiagramUses', WHERE WHAT IT READS IS OF BULK AT MOST 1048576: true; the input reads as it did. -/
def fnExactDiagramUsesUptoRow : OpenClaim := { program := "ythcegdgffdppgaa", sum := "b23de2d95dfcda257480fcc407c5b61e44450813e0293d6ca36eb216fcd046d5", func := "loop.example/wholecheck/laws.FnExactDiagramUses", spec := "fnExactDiagramUses", plainKeys := false, apart := false, narrowed := true }
def FnExactDiagramUsesUptoSaid : Prop := fnExactDiagramUsesUptoRow.holds Try.pinned (OpenSpec.upto fnExactDiagramUsesSpec)

end Rows
end Go.Proofs.Ythcegdgffdppgaa
