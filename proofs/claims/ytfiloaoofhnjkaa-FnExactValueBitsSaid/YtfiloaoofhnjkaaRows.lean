/-
  No cell of these rows narrows 'for every input' (looked for: loops, veiled, ifaces, maps, wideKeys, modest, calm, conditions, laid).
  DERIVED. THE GIVEN ROWS OF THIS SEAT. 12 by the template 'for every input the law returns true; each argument reads behind the call as it read before'; 0 by the template 'total and deterministic' (their statements: YtfiloaoofhnjkaaTotals.lean).
  GIVEN WITH THE SEED: the statements are not yours to turn. If you find one false, say at which input.
  Laid BY PROGRAM, IN A SANDBOX (cutbox-rows.mjs): the forced cells as the released guide's own fill.sh prints them over the translation 8fe212084c278c22… (all of the seat's roots in one cut). By AI agents, Wed Nov 11 2026. No macro, syntax, notation, axiom, sorry.
-/
import Derived.Test.YtfiloaoofhnjkaaChecked
import GoSem.Claim
import GoSem.ClaimJoined
import GoSem.ClaimMapViews
import Derived.JoinedTies
import Derived.KernelRfl
namespace Go.Proofs.Ytfiloaoofhnjkaa
/- THE CELL 'sum', in the pinned program and in every row, IS THE sha256 OF THE DUMP (.gsa) THAT YtfiloaoofhnjkaaProg.lean LOADS. Nothing in Lean hashes anything: it is a label: what it is worth is what the hold of that sum in a sandbox is worth. -/
noncomputable def Try.pinned : Pinned := { name := "ytfiloaoofhnjkaa", sum := "8fe212084c278c22c89f729fdc539fe0aafdf5bab1c34276b11555ea37ffb1cc", checked := Try.checked }
namespace Rows
def none {H : Type} : Left H := { results := [], args := [] }

/-- 'laws.FnExactConstants': WHATEVER THE INPUT: true; the input reads as it did. -/
def fnExactConstantsSpec : ChangeSpec := { name := "fnExactConstants", fn := fun _ => fun
  | [] => { results := [.lit (.bool true)], args := [] }
  | _ => none }
def fnExactConstantsRow : OpenClaim := { program := "ytfiloaoofhnjkaa", sum := "8fe212084c278c22c89f729fdc539fe0aafdf5bab1c34276b11555ea37ffb1cc", func := "loop.example/wholecheck/laws.FnExactConstants", spec := "fnExactConstants", apart := false }
def FnExactConstantsSaid : Prop := fnExactConstantsRow.holds Try.pinned (OpenSpec.ofChange fnExactConstantsSpec)

/-- ITS FALSE NEIGHBOUR: 'it returns false'. Refute it at one input. -/
def fnExactConstantsWrong : ChangeSpec := { name := "fnExactConstants", fn := fun _ => fun
  | [] => { results := [.lit (.bool false)], args := [] }
  | _ => none }
def FnExactConstantsWrongFalsely : Prop := fnExactConstantsRow.holds Try.pinned (OpenSpec.ofChange fnExactConstantsWrong)

/-- 'laws.FnExactCubeValid': WHATEVER THE INPUT: true; the input reads as it did. -/
def fnExactCubeValidSpec : ChangeSpec := { name := "fnExactCubeValid", fn := fun _ => fun
  | [d1, d2] => { results := [.lit (.bool true)], args := [d1, d2] }
  | _ => none }
def fnExactCubeValidRow : OpenClaim := { program := "ytfiloaoofhnjkaa", sum := "8fe212084c278c22c89f729fdc539fe0aafdf5bab1c34276b11555ea37ffb1cc", func := "loop.example/wholecheck/laws.FnExactCubeValid", spec := "fnExactCubeValid", unfollowed := true, recurses := true, apart := false }
def FnExactCubeValidSaid : Prop := fnExactCubeValidRow.holds Try.pinned (OpenSpec.ofChange fnExactCubeValidSpec)

/-- ITS FALSE NEIGHBOUR: 'it returns false'. Refute it at one input. -/
def fnExactCubeValidWrong : ChangeSpec := { name := "fnExactCubeValid", fn := fun _ => fun
  | [d1, d2] => { results := [.lit (.bool false)], args := [d1, d2] }
  | _ => none }
def FnExactCubeValidWrongFalsely : Prop := fnExactCubeValidRow.holds Try.pinned (OpenSpec.ofChange fnExactCubeValidWrong)

/-- 'laws.FnExactClauseValid': WHATEVER THE INPUT: true; the input reads as it did. -/
def fnExactClauseValidSpec : ChangeSpec := { name := "fnExactClauseValid", fn := fun _ => fun
  | [d1, d2] => { results := [.lit (.bool true)], args := [d1, d2] }
  | _ => none }
def fnExactClauseValidRow : OpenClaim := { program := "ytfiloaoofhnjkaa", sum := "8fe212084c278c22c89f729fdc539fe0aafdf5bab1c34276b11555ea37ffb1cc", func := "loop.example/wholecheck/laws.FnExactClauseValid", spec := "fnExactClauseValid", apart := false }
def FnExactClauseValidSaid : Prop := fnExactClauseValidRow.holds Try.pinned (OpenSpec.ofChange fnExactClauseValidSpec)

/-- ITS FALSE NEIGHBOUR: 'it returns false'. Refute it at one input. -/
def fnExactClauseValidWrong : ChangeSpec := { name := "fnExactClauseValid", fn := fun _ => fun
  | [d1, d2] => { results := [.lit (.bool false)], args := [d1, d2] }
  | _ => none }
def FnExactClauseValidWrongFalsely : Prop := fnExactClauseValidRow.holds Try.pinned (OpenSpec.ofChange fnExactClauseValidWrong)

/-- 'laws.FnExactOrderValid': WHATEVER THE INPUT: true; the input reads as it did. -/
def fnExactOrderValidSpec : ChangeSpec := { name := "fnExactOrderValid", fn := fun _ => fun
  | [d1, d2] => { results := [.lit (.bool true)], args := [d1, d2] }
  | _ => none }
def fnExactOrderValidRow : OpenClaim := { program := "ytfiloaoofhnjkaa", sum := "8fe212084c278c22c89f729fdc539fe0aafdf5bab1c34276b11555ea37ffb1cc", func := "loop.example/wholecheck/laws.FnExactOrderValid", spec := "fnExactOrderValid", apart := false }
def FnExactOrderValidSaid : Prop := fnExactOrderValidRow.holds Try.pinned (OpenSpec.ofChange fnExactOrderValidSpec)

/-- ITS FALSE NEIGHBOUR: 'it returns false'. Refute it at one input. -/
def fnExactOrderValidWrong : ChangeSpec := { name := "fnExactOrderValid", fn := fun _ => fun
  | [d1, d2] => { results := [.lit (.bool false)], args := [d1, d2] }
  | _ => none }
def FnExactOrderValidWrongFalsely : Prop := fnExactOrderValidRow.holds Try.pinned (OpenSpec.ofChange fnExactOrderValidWrong)

/-- 'laws.FnExactValueBits': WHATEVER THE INPUT: true; the input reads as it did. -/
def fnExactValueBitsSpec : ChangeSpec := { name := "fnExactValueBits", fn := fun _ => fun
  | [d1, d2] => { results := [.lit (.bool true)], args := [d1, d2] }
  | _ => none }
def fnExactValueBitsRow : OpenClaim := { program := "ytfiloaoofhnjkaa", sum := "8fe212084c278c22c89f729fdc539fe0aafdf5bab1c34276b11555ea37ffb1cc", func := "loop.example/wholecheck/laws.FnExactValueBits", spec := "fnExactValueBits", apart := false }
def FnExactValueBitsSaid : Prop := fnExactValueBitsRow.holds Try.pinned (OpenSpec.ofChange fnExactValueBitsSpec)

/-- ITS FALSE NEIGHBOUR: 'it returns false'. Refute it at one input. -/
def fnExactValueBitsWrong : ChangeSpec := { name := "fnExactValueBits", fn := fun _ => fun
  | [d1, d2] => { results := [.lit (.bool false)], args := [d1, d2] }
  | _ => none }
def FnExactValueBitsWrongFalsely : Prop := fnExactValueBitsRow.holds Try.pinned (OpenSpec.ofChange fnExactValueBitsWrong)

/-- 'laws.FnExactCubeSize': WHATEVER THE INPUT: true; the input reads as it did. -/
def fnExactCubeSizeSpec : ChangeSpec := { name := "fnExactCubeSize", fn := fun _ => fun
  | [d] => { results := [.lit (.bool true)], args := [d] }
  | _ => none }
def fnExactCubeSizeRow : OpenClaim := { program := "ytfiloaoofhnjkaa", sum := "8fe212084c278c22c89f729fdc539fe0aafdf5bab1c34276b11555ea37ffb1cc", func := "loop.example/wholecheck/laws.FnExactCubeSize", spec := "fnExactCubeSize", unfollowed := true, recurses := true, apart := false }
def FnExactCubeSizeSaid : Prop := fnExactCubeSizeRow.holds Try.pinned (OpenSpec.ofChange fnExactCubeSizeSpec)

/-- ITS FALSE NEIGHBOUR: 'it returns false'. Refute it at one input. -/
def fnExactCubeSizeWrong : ChangeSpec := { name := "fnExactCubeSize", fn := fun _ => fun
  | [d] => { results := [.lit (.bool false)], args := [d] }
  | _ => none }
def FnExactCubeSizeWrongFalsely : Prop := fnExactCubeSizeRow.holds Try.pinned (OpenSpec.ofChange fnExactCubeSizeWrong)

/-- 'laws.FnExactSharedAtoms': WHATEVER THE INPUT: true; the input reads as it did. -/
def fnExactSharedAtomsSpec : ChangeSpec := { name := "fnExactSharedAtoms", fn := fun _ => fun
  | [d1, d2] => { results := [.lit (.bool true)], args := [d1, d2] }
  | _ => none }
def fnExactSharedAtomsRow : OpenClaim := { program := "ytfiloaoofhnjkaa", sum := "8fe212084c278c22c89f729fdc539fe0aafdf5bab1c34276b11555ea37ffb1cc", func := "loop.example/wholecheck/laws.FnExactSharedAtoms", spec := "fnExactSharedAtoms", unfollowed := true, recurses := true, apart := false }
def FnExactSharedAtomsSaid : Prop := fnExactSharedAtomsRow.holds Try.pinned (OpenSpec.ofChange fnExactSharedAtomsSpec)

/-- ITS FALSE NEIGHBOUR: 'it returns false'. Refute it at one input. -/
def fnExactSharedAtomsWrong : ChangeSpec := { name := "fnExactSharedAtoms", fn := fun _ => fun
  | [d1, d2] => { results := [.lit (.bool false)], args := [d1, d2] }
  | _ => none }
def FnExactSharedAtomsWrongFalsely : Prop := fnExactSharedAtomsRow.holds Try.pinned (OpenSpec.ofChange fnExactSharedAtomsWrong)

/-- 'laws.FnExactCubeInside': WHATEVER THE INPUT: true; the input reads as it did. -/
def fnExactCubeInsideSpec : ChangeSpec := { name := "fnExactCubeInside", fn := fun _ => fun
  | [d1, d2] => { results := [.lit (.bool true)], args := [d1, d2] }
  | _ => none }
def fnExactCubeInsideRow : OpenClaim := { program := "ytfiloaoofhnjkaa", sum := "8fe212084c278c22c89f729fdc539fe0aafdf5bab1c34276b11555ea37ffb1cc", func := "loop.example/wholecheck/laws.FnExactCubeInside", spec := "fnExactCubeInside", unfollowed := true, recurses := true, apart := false }
def FnExactCubeInsideSaid : Prop := fnExactCubeInsideRow.holds Try.pinned (OpenSpec.ofChange fnExactCubeInsideSpec)

/-- ITS FALSE NEIGHBOUR: 'it returns false'. Refute it at one input. -/
def fnExactCubeInsideWrong : ChangeSpec := { name := "fnExactCubeInside", fn := fun _ => fun
  | [d1, d2] => { results := [.lit (.bool false)], args := [d1, d2] }
  | _ => none }
def FnExactCubeInsideWrongFalsely : Prop := fnExactCubeInsideRow.holds Try.pinned (OpenSpec.ofChange fnExactCubeInsideWrong)

/-- 'laws.FnExactBitsValue': WHATEVER THE INPUT: true; the input reads as it did. -/
def fnExactBitsValueSpec : ChangeSpec := { name := "fnExactBitsValue", fn := fun _ => fun
  | [d] => { results := [.lit (.bool true)], args := [d] }
  | _ => none }
def fnExactBitsValueRow : OpenClaim := { program := "ytfiloaoofhnjkaa", sum := "8fe212084c278c22c89f729fdc539fe0aafdf5bab1c34276b11555ea37ffb1cc", func := "loop.example/wholecheck/laws.FnExactBitsValue", spec := "fnExactBitsValue", unfollowed := true, recurses := true, apart := false }
def FnExactBitsValueSaid : Prop := fnExactBitsValueRow.holds Try.pinned (OpenSpec.ofChange fnExactBitsValueSpec)

/-- ITS FALSE NEIGHBOUR: 'it returns false'. Refute it at one input. -/
def fnExactBitsValueWrong : ChangeSpec := { name := "fnExactBitsValue", fn := fun _ => fun
  | [d] => { results := [.lit (.bool false)], args := [d] }
  | _ => none }
def FnExactBitsValueWrongFalsely : Prop := fnExactBitsValueRow.holds Try.pinned (OpenSpec.ofChange fnExactBitsValueWrong)

/-- 'laws.FnExactCubeHas': WHATEVER THE INPUT: true; the input reads as it did. -/
def fnExactCubeHasSpec : ChangeSpec := { name := "fnExactCubeHas", fn := fun _ => fun
  | [d1, d2] => { results := [.lit (.bool true)], args := [d1, d2] }
  | _ => none }
def fnExactCubeHasRow : OpenClaim := { program := "ytfiloaoofhnjkaa", sum := "8fe212084c278c22c89f729fdc539fe0aafdf5bab1c34276b11555ea37ffb1cc", func := "loop.example/wholecheck/laws.FnExactCubeHas", spec := "fnExactCubeHas", unfollowed := true, recurses := true, apart := false }
def FnExactCubeHasSaid : Prop := fnExactCubeHasRow.holds Try.pinned (OpenSpec.ofChange fnExactCubeHasSpec)

/-- ITS FALSE NEIGHBOUR: 'it returns false'. Refute it at one input. -/
def fnExactCubeHasWrong : ChangeSpec := { name := "fnExactCubeHas", fn := fun _ => fun
  | [d1, d2] => { results := [.lit (.bool false)], args := [d1, d2] }
  | _ => none }
def FnExactCubeHasWrongFalsely : Prop := fnExactCubeHasRow.holds Try.pinned (OpenSpec.ofChange fnExactCubeHasWrong)

/-- 'laws.FnExactCircuitValid': WHATEVER THE INPUT: true; the input reads as it did. -/
def fnExactCircuitValidSpec : ChangeSpec := { name := "fnExactCircuitValid", fn := fun _ => fun
  | [d] => { results := [.lit (.bool true)], args := [d] }
  | _ => none }
def fnExactCircuitValidRow : OpenClaim := { program := "ytfiloaoofhnjkaa", sum := "8fe212084c278c22c89f729fdc539fe0aafdf5bab1c34276b11555ea37ffb1cc", func := "loop.example/wholecheck/laws.FnExactCircuitValid", spec := "fnExactCircuitValid", apart := false }
def FnExactCircuitValidSaid : Prop := fnExactCircuitValidRow.holds Try.pinned (OpenSpec.ofChange fnExactCircuitValidSpec)

/-- ITS FALSE NEIGHBOUR: 'it returns false'. Refute it at one input. -/
def fnExactCircuitValidWrong : ChangeSpec := { name := "fnExactCircuitValid", fn := fun _ => fun
  | [d] => { results := [.lit (.bool false)], args := [d] }
  | _ => none }
def FnExactCircuitValidWrongFalsely : Prop := fnExactCircuitValidRow.holds Try.pinned (OpenSpec.ofChange fnExactCircuitValidWrong)

/-- 'laws.FnExactCubeJoin': WHATEVER THE INPUT: true; the input reads as it did. -/
def fnExactCubeJoinSpec : ChangeSpec := { name := "fnExactCubeJoin", fn := fun _ => fun
  | [d1, d2] => { results := [.lit (.bool true)], args := [d1, d2] }
  | _ => none }
def fnExactCubeJoinRow : OpenClaim := { program := "ytfiloaoofhnjkaa", sum := "8fe212084c278c22c89f729fdc539fe0aafdf5bab1c34276b11555ea37ffb1cc", func := "loop.example/wholecheck/laws.FnExactCubeJoin", spec := "fnExactCubeJoin", unfollowed := true, recurses := true, apart := false }
def FnExactCubeJoinSaid : Prop := fnExactCubeJoinRow.holds Try.pinned (OpenSpec.ofChange fnExactCubeJoinSpec)

/-- ITS FALSE NEIGHBOUR: 'it returns false'. Refute it at one input. -/
def fnExactCubeJoinWrong : ChangeSpec := { name := "fnExactCubeJoin", fn := fun _ => fun
  | [d1, d2] => { results := [.lit (.bool false)], args := [d1, d2] }
  | _ => none }
def FnExactCubeJoinWrongFalsely : Prop := fnExactCubeJoinRow.holds Try.pinned (OpenSpec.ofChange fnExactCubeJoinWrong)

/- THE SECOND FORM. 'bulk': how many values and letters a reading holds, each counted each time it is reached (what is shared counts as often as it is met; a slice's spare places count too). A statement '..UptoSaid' is the law's where the arguments, and the package variables that the reading takes, are together of bulk at most 1048576: NARROWER than '..Said'. Prove '..Said' where nothing that the law and all that it calls make is longer than what came in: it says more and counts as full. Else prove '..UptoSaid'. A law counts once. -/
mutual
def uptoBulk {H : Type} : DataW H → Nat
  | .lit (.string bytes) => bytes.length + 1
  | .lit _ => 1
  | .nil => 1
  | .ptr d => uptoBulk d + 1
  | .slice elems spare => uptoBulkAll elems + uptoBulkAll spare + 1
  | .agg parts => uptoBulkAll parts + 1
  | .iface _ d => uptoBulk d + 1
  | .map entries => uptoBulkEntries entries + 1
  | .held _ => 1
def uptoBulkAll {H : Type} : List (DataW H) → Nat
  | [] => 0
  | d :: r => uptoBulk d + uptoBulkAll r
def uptoBulkEntries {H : Type} : List (Lit × DataW H) → Nat
  | [] => 0
  | x :: r => uptoBulkEntry x + uptoBulkEntries r
def uptoBulkEntry {H : Type} : Lit × DataW H → Nat
  | (.string bytes, d) => bytes.length + uptoBulk d + 1
  | (_, d) => uptoBulk d + 1
 end
def uptoSmall : (H : Type) → List (DataW H) → Bool := fun _ ds => decide (uptoBulkAll ds ≤ 1048576)
def OpenSpec.upto (s : _root_.Go.ChangeSpec) : _root_.Go.OpenSpec := { _root_.Go.OpenSpec.ofChange s with cond := some uptoSmall }

/-- 'laws.FnExactConstants', WHERE WHAT IT READS IS OF BULK AT MOST 1048576: true; the input reads as it did. -/
def fnExactConstantsUptoRow : OpenClaim := { program := "ytfiloaoofhnjkaa", sum := "8fe212084c278c22c89f729fdc539fe0aafdf5bab1c34276b11555ea37ffb1cc", func := "loop.example/wholecheck/laws.FnExactConstants", spec := "fnExactConstants", apart := false, narrowed := true }
def FnExactConstantsUptoSaid : Prop := fnExactConstantsUptoRow.holds Try.pinned (OpenSpec.upto fnExactConstantsSpec)

/-- 'laws.FnExactCubeValid', WHERE WHAT IT READS IS OF BULK AT MOST 1048576: true; the input reads as it did. -/
def fnExactCubeValidUptoRow : OpenClaim := { program := "ytfiloaoofhnjkaa", sum := "8fe212084c278c22c89f729fdc539fe0aafdf5bab1c34276b11555ea37ffb1cc", func := "loop.example/wholecheck/laws.FnExactCubeValid", spec := "fnExactCubeValid", unfollowed := true, recurses := true, apart := false, narrowed := true }
def FnExactCubeValidUptoSaid : Prop := fnExactCubeValidUptoRow.holds Try.pinned (OpenSpec.upto fnExactCubeValidSpec)

/-- 'laws.FnExactClauseValid', WHERE WHAT IT READS IS OF BULK AT MOST 1048576: true; the input reads as it did. -/
def fnExactClauseValidUptoRow : OpenClaim := { program := "ytfiloaoofhnjkaa", sum := "8fe212084c278c22c89f729fdc539fe0aafdf5bab1c34276b11555ea37ffb1cc", func := "loop.example/wholecheck/laws.FnExactClauseValid", spec := "fnExactClauseValid", apart := false, narrowed := true }
def FnExactClauseValidUptoSaid : Prop := fnExactClauseValidUptoRow.holds Try.pinned (OpenSpec.upto fnExactClauseValidSpec)

/-- 'laws.FnExactOrderValid', WHERE WHAT IT READS IS OF BULK AT MOST 1048576: true; the input reads as it did. -/
def fnExactOrderValidUptoRow : OpenClaim := { program := "ytfiloaoofhnjkaa", sum := "8fe212084c278c22c89f729fdc539fe0aafdf5bab1c34276b11555ea37ffb1cc", func := "loop.example/wholecheck/laws.FnExactOrderValid", spec := "fnExactOrderValid", apart := false, narrowed := true }
def FnExactOrderValidUptoSaid : Prop := fnExactOrderValidUptoRow.holds Try.pinned (OpenSpec.upto fnExactOrderValidSpec)

/-- 'laws.FnExactValueBits', WHERE WHAT IT READS IS OF BULK AT MOST 1048576: true; the input reads as it did. -/
def fnExactValueBitsUptoRow : OpenClaim := { program := "ytfiloaoofhnjkaa", sum := "8fe212084c278c22c89f729fdc539fe0aafdf5bab1c34276b11555ea37ffb1cc", func := "loop.example/wholecheck/laws.FnExactValueBits", spec := "fnExactValueBits", apart := false, narrowed := true }
def FnExactValueBitsUptoSaid : Prop := fnExactValueBitsUptoRow.holds Try.pinned (OpenSpec.upto fnExactValueBitsSpec)

/-- 'laws.FnExactCubeSize', WHERE WHAT IT READS IS OF BULK AT MOST 1048576: true; the input reads as it did. -/
def fnExactCubeSizeUptoRow : OpenClaim := { program := "ytfiloaoofhnjkaa", sum := "8fe212084c278c22c89f729fdc539fe0aafdf5bab1c34276b11555ea37ffb1cc", func := "loop.example/wholecheck/laws.FnExactCubeSize", spec := "fnExactCubeSize", unfollowed := true, recurses := true, apart := false, narrowed := true }
def FnExactCubeSizeUptoSaid : Prop := fnExactCubeSizeUptoRow.holds Try.pinned (OpenSpec.upto fnExactCubeSizeSpec)

/-- 'laws.FnExactSharedAtoms', WHERE WHAT IT READS IS OF BULK AT MOST 1048576: true; the input reads as it did. -/
def fnExactSharedAtomsUptoRow : OpenClaim := { program := "ytfiloaoofhnjkaa", sum := "8fe212084c278c22c89f729fdc539fe0aafdf5bab1c34276b11555ea37ffb1cc", func := "loop.example/wholecheck/laws.FnExactSharedAtoms", spec := "fnExactSharedAtoms", unfollowed := true, recurses := true, apart := false, narrowed := true }
def FnExactSharedAtomsUptoSaid : Prop := fnExactSharedAtomsUptoRow.holds Try.pinned (OpenSpec.upto fnExactSharedAtomsSpec)

/-- 'laws.FnExactCubeInside', WHERE WHAT IT READS IS OF BULK AT MOST 1048576: true; the input reads as it did. -/
def fnExactCubeInsideUptoRow : OpenClaim := { program := "ytfiloaoofhnjkaa", sum := "8fe212084c278c22c89f729fdc539fe0aafdf5bab1c34276b11555ea37ffb1cc", func := "loop.example/wholecheck/laws.FnExactCubeInside", spec := "fnExactCubeInside", unfollowed := true, recurses := true, apart := false, narrowed := true }
def FnExactCubeInsideUptoSaid : Prop := fnExactCubeInsideUptoRow.holds Try.pinned (OpenSpec.upto fnExactCubeInsideSpec)

/-- 'laws.FnExactBitsValue', WHERE WHAT IT READS IS OF BULK AT MOST 1048576: true; the input reads as it did. -/
def fnExactBitsValueUptoRow : OpenClaim := { program := "ytfiloaoofhnjkaa", sum := "8fe212084c278c22c89f729fdc539fe0aafdf5bab1c34276b11555ea37ffb1cc", func := "loop.example/wholecheck/laws.FnExactBitsValue", spec := "fnExactBitsValue", unfollowed := true, recurses := true, apart := false, narrowed := true }
def FnExactBitsValueUptoSaid : Prop := fnExactBitsValueUptoRow.holds Try.pinned (OpenSpec.upto fnExactBitsValueSpec)

/-- 'laws.FnExactCubeHas', WHERE WHAT IT READS IS OF BULK AT MOST 1048576: true; the input reads as it did. -/
def fnExactCubeHasUptoRow : OpenClaim := { program := "ytfiloaoofhnjkaa", sum := "8fe212084c278c22c89f729fdc539fe0aafdf5bab1c34276b11555ea37ffb1cc", func := "loop.example/wholecheck/laws.FnExactCubeHas", spec := "fnExactCubeHas", unfollowed := true, recurses := true, apart := false, narrowed := true }
def FnExactCubeHasUptoSaid : Prop := fnExactCubeHasUptoRow.holds Try.pinned (OpenSpec.upto fnExactCubeHasSpec)

/-- 'laws.FnExactCircuitValid', WHERE WHAT IT READS IS OF BULK AT MOST 1048576: true; the input reads as it did. -/
def fnExactCircuitValidUptoRow : OpenClaim := { program := "ytfiloaoofhnjkaa", sum := "8fe212084c278c22c89f729fdc539fe0aafdf5bab1c34276b11555ea37ffb1cc", func := "loop.example/wholecheck/laws.FnExactCircuitValid", spec := "fnExactCircuitValid", apart := false, narrowed := true }
def FnExactCircuitValidUptoSaid : Prop := fnExactCircuitValidUptoRow.holds Try.pinned (OpenSpec.upto fnExactCircuitValidSpec)

/-- 'laws.FnExactCubeJoin', WHERE WHAT IT READS IS OF BULK AT MOST 1048576: true; the input reads as it did. -/
def fnExactCubeJoinUptoRow : OpenClaim := { program := "ytfiloaoofhnjkaa", sum := "8fe212084c278c22c89f729fdc539fe0aafdf5bab1c34276b11555ea37ffb1cc", func := "loop.example/wholecheck/laws.FnExactCubeJoin", spec := "fnExactCubeJoin", unfollowed := true, recurses := true, apart := false, narrowed := true }
def FnExactCubeJoinUptoSaid : Prop := fnExactCubeJoinUptoRow.holds Try.pinned (OpenSpec.upto fnExactCubeJoinSpec)

end Rows
end Go.Proofs.Ytfiloaoofhnjkaa
