/-
  No cell of these rows narrows 'for every input' (looked for: loops, veiled, ifaces, maps, wideKeys, modest, calm, conditions, laid).
  DERIVED. THE GIVEN ROWS OF THIS SEAT. 6 by the template 'for every input the law returns true; each argument reads behind the call as it read before'; 0 by the template 'total and deterministic' (their statements: YthcegdgffdppgacTotals.lean).
  GIVEN WITH THE SEED: the statements are not yours to turn. If you find one false, say at which input.
  Laid BY PROGRAM, IN A SANDBOX (cutbox-rows.mjs): the forced cells as the released guide's own fill.sh prints them over the translation 8de5143074a1e576… (all of the seat's roots in one cut). By AI agents, Wed Nov 11 2026. No macro, syntax, notation, axiom, sorry.
-/
import Derived.Test.YthcegdgffdppgacChecked
import GoSem.Claim
import GoSem.ClaimJoined
import GoSem.ClaimMapViews
import Derived.JoinedTies
import Derived.KernelRfl
namespace Go.Proofs.Ythcegdgffdppgac
/- THE CELL 'sum', in the pinned program and in every row, IS THE sha256 OF THE DUMP (.gsa) THAT YthcegdgffdppgacProg.lean LOADS. Nothing in Lean hashes anything: it is a label: what it is worth is what the hold of that sum in a sandbox is worth. -/
noncomputable def Try.pinned : Pinned := { name := "ythcegdgffdppgac", sum := "8de5143074a1e57662f578ba1fab95199340281cd88f417bf49edd6b93658e1e", checked := Try.checked }
namespace Rows
def none {H : Type} : Left H := { results := [], args := [] }

/-- 'laws.FnExactClausesValid': WHATEVER THE INPUT: true; the input reads as it did. -/
def fnExactClausesValidSpec : ChangeSpec := { name := "fnExactClausesValid", fn := fun _ => fun
  | [d] => { results := [.lit (.bool true)], args := [d] }
  | _ => none }
def fnExactClausesValidRow : OpenClaim := { program := "ythcegdgffdppgac", sum := "8de5143074a1e57662f578ba1fab95199340281cd88f417bf49edd6b93658e1e", func := "loop.example/wholecheck/laws.FnExactClausesValid", spec := "fnExactClausesValid", unfollowed := true, recurses := true, apart := false }
def FnExactClausesValidSaid : Prop := fnExactClausesValidRow.holds Try.pinned (OpenSpec.ofChange fnExactClausesValidSpec)

/-- ITS FALSE NEIGHBOUR: 'it returns false'. Refute it at one input. -/
def fnExactClausesValidWrong : ChangeSpec := { name := "fnExactClausesValid", fn := fun _ => fun
  | [d] => { results := [.lit (.bool false)], args := [d] }
  | _ => none }
def FnExactClausesValidWrongFalsely : Prop := fnExactClausesValidRow.holds Try.pinned (OpenSpec.ofChange fnExactClausesValidWrong)

/-- 'laws.FnExactSharedAtoms': WHATEVER THE INPUT: true; the input reads as it did. -/
def fnExactSharedAtomsSpec : ChangeSpec := { name := "fnExactSharedAtoms", fn := fun _ => fun
  | [d1, d2] => { results := [.lit (.bool true)], args := [d1, d2] }
  | _ => none }
def fnExactSharedAtomsRow : OpenClaim := { program := "ythcegdgffdppgac", sum := "8de5143074a1e57662f578ba1fab95199340281cd88f417bf49edd6b93658e1e", func := "loop.example/wholecheck/laws.FnExactSharedAtoms", spec := "fnExactSharedAtoms", unfollowed := true, recurses := true, apart := false }
def FnExactSharedAtomsSaid : Prop := fnExactSharedAtomsRow.holds Try.pinned (OpenSpec.ofChange fnExactSharedAtomsSpec)

/-- ITS FALSE NEIGHBOUR: 'it returns false'. Refute it at one input. -/
def fnExactSharedAtomsWrong : ChangeSpec := { name := "fnExactSharedAtoms", fn := fun _ => fun
  | [d1, d2] => { results := [.lit (.bool false)], args := [d1, d2] }
  | _ => none }
def FnExactSharedAtomsWrongFalsely : Prop := fnExactSharedAtomsRow.holds Try.pinned (OpenSpec.ofChange fnExactSharedAtomsWrong)

/-- 'laws.FnExactAtomsOf': WHATEVER THE INPUT: true; the input reads as it did. -/
def fnExactAtomsOfSpec : ChangeSpec := { name := "fnExactAtomsOf", fn := fun _ => fun
  | [d1, d2, d3] => { results := [.lit (.bool true)], args := [d1, d2, d3] }
  | _ => none }
def fnExactAtomsOfRow : OpenClaim := { program := "ythcegdgffdppgac", sum := "8de5143074a1e57662f578ba1fab95199340281cd88f417bf49edd6b93658e1e", func := "loop.example/wholecheck/laws.FnExactAtomsOf", spec := "fnExactAtomsOf", unfollowed := true, recurses := true, apart := false }
def FnExactAtomsOfSaid : Prop := fnExactAtomsOfRow.holds Try.pinned (OpenSpec.ofChange fnExactAtomsOfSpec)

/-- ITS FALSE NEIGHBOUR: 'it returns false'. Refute it at one input. -/
def fnExactAtomsOfWrong : ChangeSpec := { name := "fnExactAtomsOf", fn := fun _ => fun
  | [d1, d2, d3] => { results := [.lit (.bool false)], args := [d1, d2, d3] }
  | _ => none }
def FnExactAtomsOfWrongFalsely : Prop := fnExactAtomsOfRow.holds Try.pinned (OpenSpec.ofChange fnExactAtomsOfWrong)

/-- 'laws.FnExactTrueIn': WHATEVER THE INPUT: true; the input reads as it did. -/
def fnExactTrueInSpec : ChangeSpec := { name := "fnExactTrueIn", fn := fun _ => fun
  | [d1, d2] => { results := [.lit (.bool true)], args := [d1, d2] }
  | _ => none }
def fnExactTrueInRow : OpenClaim := { program := "ythcegdgffdppgac", sum := "8de5143074a1e57662f578ba1fab95199340281cd88f417bf49edd6b93658e1e", func := "loop.example/wholecheck/laws.FnExactTrueIn", spec := "fnExactTrueIn", unfollowed := true, recurses := true, apart := false }
def FnExactTrueInSaid : Prop := fnExactTrueInRow.holds Try.pinned (OpenSpec.ofChange fnExactTrueInSpec)

/-- ITS FALSE NEIGHBOUR: 'it returns false'. Refute it at one input. -/
def fnExactTrueInWrong : ChangeSpec := { name := "fnExactTrueIn", fn := fun _ => fun
  | [d1, d2] => { results := [.lit (.bool false)], args := [d1, d2] }
  | _ => none }
def FnExactTrueInWrongFalsely : Prop := fnExactTrueInRow.holds Try.pinned (OpenSpec.ofChange fnExactTrueInWrong)

/-- 'laws.FnExactCountModels': WHATEVER THE INPUT: true; the input reads as it did. -/
def fnExactCountModelsSpec : ChangeSpec := { name := "fnExactCountModels", fn := fun _ => fun
  | [d] => { results := [.lit (.bool true)], args := [d] }
  | _ => none }
def fnExactCountModelsRow : OpenClaim := { program := "ythcegdgffdppgac", sum := "8de5143074a1e57662f578ba1fab95199340281cd88f417bf49edd6b93658e1e", func := "loop.example/wholecheck/laws.FnExactCountModels", spec := "fnExactCountModels", unfollowed := true, recurses := true, apart := false }
def FnExactCountModelsSaid : Prop := fnExactCountModelsRow.holds Try.pinned (OpenSpec.ofChange fnExactCountModelsSpec)

/-- ITS FALSE NEIGHBOUR: 'it returns false'. Refute it at one input. -/
def fnExactCountModelsWrong : ChangeSpec := { name := "fnExactCountModels", fn := fun _ => fun
  | [d] => { results := [.lit (.bool false)], args := [d] }
  | _ => none }
def FnExactCountModelsWrongFalsely : Prop := fnExactCountModelsRow.holds Try.pinned (OpenSpec.ofChange fnExactCountModelsWrong)

/-- 'laws.FnExactWordValid': WHATEVER THE INPUT: true; the input reads as it did. -/
def fnExactWordValidSpec : ChangeSpec := { name := "fnExactWordValid", fn := fun _ => fun
  | [d1, d2, d3] => { results := [.lit (.bool true)], args := [d1, d2, d3] }
  | _ => none }
def fnExactWordValidRow : OpenClaim := { program := "ythcegdgffdppgac", sum := "8de5143074a1e57662f578ba1fab95199340281cd88f417bf49edd6b93658e1e", func := "loop.example/wholecheck/laws.FnExactWordValid", spec := "fnExactWordValid", unfollowed := true, recurses := true, apart := false }
def FnExactWordValidSaid : Prop := fnExactWordValidRow.holds Try.pinned (OpenSpec.ofChange fnExactWordValidSpec)

/-- ITS FALSE NEIGHBOUR: 'it returns false'. Refute it at one input. -/
def fnExactWordValidWrong : ChangeSpec := { name := "fnExactWordValid", fn := fun _ => fun
  | [d1, d2, d3] => { results := [.lit (.bool false)], args := [d1, d2, d3] }
  | _ => none }
def FnExactWordValidWrongFalsely : Prop := fnExactWordValidRow.holds Try.pinned (OpenSpec.ofChange fnExactWordValidWrong)

/- THE SECOND FORM. 'bulk': how many values and letters a reading holds, each counted each time it is reached (what is shared counts as often as it is met; a slice's spare places count too). A statement '..UptoSaid' is the law's where the arguments, and the package variables that the reading takes, are together of bulk at most 1048576: NARROWER than '..Said'. Prove '..Said' where nothing that the law and all that it calls make is longer than what came in: it says more and counts as full. Else prove '..UptoSaid'. A law counts once. -/
mutual
def uptoBulk {H : Type} : DataW H → Nat
  | .lit (.string bytes) => bytes.length + 1
  | .lit _ => 1
  | .nil => 1
  | .ptr d => uptoBulk d + 1
  | .slice elems spare => uptoBulkAll elems + uptoBulkAll spare + 1
  | .agg parts => uptoBulkAll parts + 1
  | .iface _ d => uptoBulk d + 1
  | .map entries => uptoBulkEntries entries + 1
  | .held _ => 1
def uptoBulkAll {H : Type} : List (DataW H) → Nat
  | [] => 0
  | d :: r => uptoBulk d + uptoBulkAll r
def uptoBulkEntries {H : Type} : List (Lit × DataW H) → Nat
  | [] => 0
  | x :: r => uptoBulkEntry x + uptoBulkEntries r
def uptoBulkEntry {H : Type} : Lit × DataW H → Nat
  | (.string bytes, d) => bytes.length + uptoBulk d + 1
  | (_, d) => uptoBulk d + 1
 end
def uptoSmall : (H : Type) → List (DataW H) → Bool := fun _ ds => decide (uptoBulkAll ds ≤ 1048576)
def OpenSpec.upto (s : _root_.Go.ChangeSpec) : _root_.Go.OpenSpec := { _root_.Go.OpenSpec.ofChange s with cond := some uptoSmall }

/-- 'laws.FnExactClausesValid', WHERE WHAT IT READS IS OF BULK AT MOST 1048576: true; the input reads as it did. -/
def fnExactClausesValidUptoRow : OpenClaim := { program := "ythcegdgffdppgac", sum := "8de5143074a1e57662f578ba1fab95199340281cd88f417bf49edd6b93658e1e", func := "loop.example/wholecheck/laws.FnExactClausesValid", spec := "fnExactClausesValid", unfollowed := true, recurses := true, apart := false, narrowed := true }
def FnExactClausesValidUptoSaid : Prop := fnExactClausesValidUptoRow.holds Try.pinned (OpenSpec.upto fnExactClausesValidSpec)

/-- 'laws.FnExactSharedAtoms', WHERE WHAT IT READS IS OF BULK AT MOST 1048576: true; the input reads as it did. -/
def fnExactSharedAtomsUptoRow : OpenClaim := { program := "ythcegdgffdppgac", sum := "8de5143074a1e57662f578ba1fab95199340281cd88f417bf49edd6b93658e1e", func := "loop.example/wholecheck/laws.FnExactSharedAtoms", spec := "fnExactSharedAtoms", unfollowed := true, recurses := true, apart := false, narrowed := true }
def FnExactSharedAtomsUptoSaid : Prop := fnExactSharedAtomsUptoRow.holds Try.pinned (OpenSpec.upto fnExactSharedAtomsSpec)

/-- 'laws.FnExactAtomsOf', WHERE WHAT IT READS IS OF BULK AT MOST 1048576: true; the input reads as it did. -/
def fnExactAtomsOfUptoRow : OpenClaim := { program := "ythcegdgffdppgac", sum := "8de5143074a1e57662f578ba1fab95199340281cd88f417bf49edd6b93658e1e", func := "loop.example/wholecheck/laws.FnExactAtomsOf", spec := "fnExactAtomsOf", unfollowed := true, recurses := true, apart := false, narrowed := true }
def FnExactAtomsOfUptoSaid : Prop := fnExactAtomsOfUptoRow.holds Try.pinned (OpenSpec.upto fnExactAtomsOfSpec)

/-- 'laws.FnExactTrueIn', WHERE WHAT IT READS IS OF BULK AT MOST 1048576: true; the input reads as it did. -/
def fnExactTrueInUptoRow : OpenClaim := { program := "ythcegdgffdppgac", sum := "8de5143074a1e57662f578ba1fab95199340281cd88f417bf49edd6b93658e1e", func := "loop.example/wholecheck/laws.FnExactTrueIn", spec := "fnExactTrueIn", unfollowed := true, recurses := true, apart := false, narrowed := true }
def FnExactTrueInUptoSaid : Prop := fnExactTrueInUptoRow.holds Try.pinned (OpenSpec.upto fnExactTrueInSpec)

/-- 'laws.FnExactCountModels', WHERE WHAT IT READS IS OF BULK AT MOST 1048576: true; the input reads as it did. -/
def fnExactCountModelsUptoRow : OpenClaim := { program := "ythcegdgffdppgac", sum := "8de5143074a1e57662f578ba1fab95199340281cd88f417bf49edd6b93658e1e", func := "loop.example/wholecheck/laws.FnExactCountModels", spec := "fnExactCountModels", unfollowed := true, recurses := true, apart := false, narrowed := true }
def FnExactCountModelsUptoSaid : Prop := fnExactCountModelsUptoRow.holds Try.pinned (OpenSpec.upto fnExactCountModelsSpec)

/-- 'laws.FnExactWordValid', WHERE WHAT IT READS IS OF BULK AT MOST 1048576: true; the input reads as it did. -/
def fnExactWordValidUptoRow : OpenClaim := { program := "ythcegdgffdppgac", sum := "8de5143074a1e57662f578ba1fab95199340281cd88f417bf49edd6b93658e1e", func := "loop.example/wholecheck/laws.FnExactWordValid", spec := "fnExactWordValid", unfollowed := true, recurses := true, apart := false, narrowed := true }
def FnExactWordValidUptoSaid : Prop := fnExactWordValidUptoRow.holds Try.pinned (OpenSpec.upto fnExactWordValidSpec)

end Rows
end Go.Proofs.Ythcegdgffdppgac
