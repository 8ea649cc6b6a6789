/-
  No cell of these rows narrows 'for every input' (looked for: loops, veiled, ifaces, maps, wideKeys, modest, calm, conditions, laid).
  DERIVED. THE GIVEN ROWS OF THIS SEAT. 12 by the template 'for every input the law returns true; each argument reads behind the call as it read before'; 0 by the template 'total and deterministic' (their statements: YtbjkjoicecmmpaaTotals.lean).
  GIVEN WITH THE SEED: the statements are not yours to turn. If you find one false, say at which input.
  Laid BY PROGRAM, IN A SANDBOX (cutbox-rows.mjs): the forced cells as the released guide's own fill.sh prints them over the translation fa2103e7a323a540… (all of the seat's roots in one cut). By AI agents, Wed Nov 11 2026. No macro, syntax, notation, axiom, sorry.
-/
import Derived.Test.YtbjkjoicecmmpaaChecked
import GoSem.Claim
import GoSem.ClaimJoined
import GoSem.ClaimMapViews
import Derived.JoinedTies
import Derived.KernelRfl
namespace Go.Proofs.Ytbjkjoicecmmpaa
/- THE CELL 'sum', in the pinned program and in every row, IS THE sha256 OF THE DUMP (.gsa) THAT YtbjkjoicecmmpaaProg.lean LOADS. Nothing in Lean hashes anything: it is a label: what it is worth is what the hold of that sum in a sandbox is worth. -/
noncomputable def Try.pinned : Pinned := { name := "ytbjkjoicecmmpaa", sum := "fa2103e7a323a54033cf10f2b7befa6e4b54f9bbb96511cfe76a9353d5d9c62a", checked := Try.checked }
namespace Rows
def none {H : Type} : Left H := { results := [], args := [] }

/-- 'laws.FnExactFixedFrame': WHATEVER THE INPUT: true; the input reads as it did. -/
def fnExactFixedFrameSpec : ChangeSpec := { name := "fnExactFixedFrame", fn := fun _ => fun
  | [d] => { results := [.lit (.bool true)], args := [d] }
  | _ => none }
def fnExactFixedFrameRow : OpenClaim := { program := "ytbjkjoicecmmpaa", sum := "fa2103e7a323a54033cf10f2b7befa6e4b54f9bbb96511cfe76a9353d5d9c62a", func := "loop.example/wholecheck/laws.FnExactFixedFrame", spec := "fnExactFixedFrame", plainKeys := false, apart := false }
def FnExactFixedFrameSaid : Prop := fnExactFixedFrameRow.holds Try.pinned (OpenSpec.ofChange fnExactFixedFrameSpec)

/-- ITS FALSE NEIGHBOUR: 'it returns false'. Refute it at one input. -/
def fnExactFixedFrameWrong : ChangeSpec := { name := "fnExactFixedFrame", fn := fun _ => fun
  | [d] => { results := [.lit (.bool false)], args := [d] }
  | _ => none }
def FnExactFixedFrameWrongFalsely : Prop := fnExactFixedFrameRow.holds Try.pinned (OpenSpec.ofChange fnExactFixedFrameWrong)

/-- 'laws.FnExactAddOr': WHATEVER THE INPUT: true; the input reads as it did. -/
def fnExactAddOrSpec : ChangeSpec := { name := "fnExactAddOr", fn := fun _ => fun
  | [d1, d2, d3] => { results := [.lit (.bool true)], args := [d1, d2, d3] }
  | _ => none }
def fnExactAddOrRow : OpenClaim := { program := "ytbjkjoicecmmpaa", sum := "fa2103e7a323a54033cf10f2b7befa6e4b54f9bbb96511cfe76a9353d5d9c62a", func := "loop.example/wholecheck/laws.FnExactAddOr", spec := "fnExactAddOr", plainKeys := false, apart := false }
def FnExactAddOrSaid : Prop := fnExactAddOrRow.holds Try.pinned (OpenSpec.ofChange fnExactAddOrSpec)

/-- ITS FALSE NEIGHBOUR: 'it returns false'. Refute it at one input. -/
def fnExactAddOrWrong : ChangeSpec := { name := "fnExactAddOr", fn := fun _ => fun
  | [d1, d2, d3] => { results := [.lit (.bool false)], args := [d1, d2, d3] }
  | _ => none }
def FnExactAddOrWrongFalsely : Prop := fnExactAddOrRow.holds Try.pinned (OpenSpec.ofChange fnExactAddOrWrong)

/-- 'laws.FnExactTimesValid': WHATEVER THE INPUT: true; the input reads as it did. -/
def fnExactTimesValidSpec : ChangeSpec := { name := "fnExactTimesValid", fn := fun _ => fun
  | [d1, d2] => { results := [.lit (.bool true)], args := [d1, d2] }
  | _ => none }
def fnExactTimesValidRow : OpenClaim := { program := "ytbjkjoicecmmpaa", sum := "fa2103e7a323a54033cf10f2b7befa6e4b54f9bbb96511cfe76a9353d5d9c62a", func := "loop.example/wholecheck/laws.FnExactTimesValid", spec := "fnExactTimesValid", plainKeys := false, apart := false }
def FnExactTimesValidSaid : Prop := fnExactTimesValidRow.holds Try.pinned (OpenSpec.ofChange fnExactTimesValidSpec)

/-- ITS FALSE NEIGHBOUR: 'it returns false'. Refute it at one input. -/
def fnExactTimesValidWrong : ChangeSpec := { name := "fnExactTimesValid", fn := fun _ => fun
  | [d1, d2] => { results := [.lit (.bool false)], args := [d1, d2] }
  | _ => none }
def FnExactTimesValidWrongFalsely : Prop := fnExactTimesValidRow.holds Try.pinned (OpenSpec.ofChange fnExactTimesValidWrong)

/-- 'laws.FnExactWordValid': WHATEVER THE INPUT: true; the input reads as it did. -/
def fnExactWordValidSpec : ChangeSpec := { name := "fnExactWordValid", fn := fun _ => fun
  | [d1, d2, d3] => { results := [.lit (.bool true)], args := [d1, d2, d3] }
  | _ => none }
def fnExactWordValidRow : OpenClaim := { program := "ytbjkjoicecmmpaa", sum := "fa2103e7a323a54033cf10f2b7befa6e4b54f9bbb96511cfe76a9353d5d9c62a", func := "loop.example/wholecheck/laws.FnExactWordValid", spec := "fnExactWordValid", unfollowed := true, recurses := true, plainKeys := false, apart := false }
def FnExactWordValidSaid : Prop := fnExactWordValidRow.holds Try.pinned (OpenSpec.ofChange fnExactWordValidSpec)

/-- ITS FALSE NEIGHBOUR: 'it returns false'. Refute it at one input. -/
def fnExactWordValidWrong : ChangeSpec := { name := "fnExactWordValid", fn := fun _ => fun
  | [d1, d2, d3] => { results := [.lit (.bool false)], args := [d1, d2, d3] }
  | _ => none }
def FnExactWordValidWrongFalsely : Prop := fnExactWordValidRow.holds Try.pinned (OpenSpec.ofChange fnExactWordValidWrong)

/-- 'laws.FnExactCubeMeet': WHATEVER THE INPUT: true; the input reads as it did. -/
def fnExactCubeMeetSpec : ChangeSpec := { name := "fnExactCubeMeet", fn := fun _ => fun
  | [d1, d2] => { results := [.lit (.bool true)], args := [d1, d2] }
  | _ => none }
def fnExactCubeMeetRow : OpenClaim := { program := "ytbjkjoicecmmpaa", sum := "fa2103e7a323a54033cf10f2b7befa6e4b54f9bbb96511cfe76a9353d5d9c62a", func := "loop.example/wholecheck/laws.FnExactCubeMeet", spec := "fnExactCubeMeet", unfollowed := true, recurses := true, plainKeys := false, apart := false }
def FnExactCubeMeetSaid : Prop := fnExactCubeMeetRow.holds Try.pinned (OpenSpec.ofChange fnExactCubeMeetSpec)

/-- ITS FALSE NEIGHBOUR: 'it returns false'. Refute it at one input. -/
def fnExactCubeMeetWrong : ChangeSpec := { name := "fnExactCubeMeet", fn := fun _ => fun
  | [d1, d2] => { results := [.lit (.bool false)], args := [d1, d2] }
  | _ => none }
def FnExactCubeMeetWrongFalsely : Prop := fnExactCubeMeetRow.holds Try.pinned (OpenSpec.ofChange fnExactCubeMeetWrong)

/-- 'laws.FnValueBits': WHATEVER THE INPUT: true; the input reads as it did. -/
def fnValueBitsSpec : ChangeSpec := { name := "fnValueBits", fn := fun _ => fun
  | [d] => { results := [.lit (.bool true)], args := [d] }
  | _ => none }
def fnValueBitsRow : OpenClaim := { program := "ytbjkjoicecmmpaa", sum := "fa2103e7a323a54033cf10f2b7befa6e4b54f9bbb96511cfe76a9353d5d9c62a", func := "loop.example/wholecheck/laws.FnValueBits", spec := "fnValueBits", unfollowed := true, recurses := true, plainKeys := false, apart := false }
def FnValueBitsSaid : Prop := fnValueBitsRow.holds Try.pinned (OpenSpec.ofChange fnValueBitsSpec)

/-- ITS FALSE NEIGHBOUR: 'it returns false'. Refute it at one input. -/
def fnValueBitsWrong : ChangeSpec := { name := "fnValueBits", fn := fun _ => fun
  | [d] => { results := [.lit (.bool false)], args := [d] }
  | _ => none }
def FnValueBitsWrongFalsely : Prop := fnValueBitsRow.holds Try.pinned (OpenSpec.ofChange fnValueBitsWrong)

/-- 'laws.FnExactTreesValid': WHATEVER THE INPUT: true; the input reads as it did. -/
def fnExactTreesValidSpec : ChangeSpec := { name := "fnExactTreesValid", fn := fun _ => fun
  | [d1, d2] => { results := [.lit (.bool true)], args := [d1, d2] }
  | _ => none }
def fnExactTreesValidRow : OpenClaim := { program := "ytbjkjoicecmmpaa", sum := "fa2103e7a323a54033cf10f2b7befa6e4b54f9bbb96511cfe76a9353d5d9c62a", func := "loop.example/wholecheck/laws.FnExactTreesValid", spec := "fnExactTreesValid", plainKeys := false, apart := false }
def FnExactTreesValidSaid : Prop := fnExactTreesValidRow.holds Try.pinned (OpenSpec.ofChange fnExactTreesValidSpec)

/-- ITS FALSE NEIGHBOUR: 'it returns false'. Refute it at one input. -/
def fnExactTreesValidWrong : ChangeSpec := { name := "fnExactTreesValid", fn := fun _ => fun
  | [d1, d2] => { results := [.lit (.bool false)], args := [d1, d2] }
  | _ => none }
def FnExactTreesValidWrongFalsely : Prop := fnExactTreesValidRow.holds Try.pinned (OpenSpec.ofChange fnExactTreesValidWrong)

/-- 'laws.FnExactOrderBack': WHATEVER THE INPUT: true; the input reads as it did. -/
def fnExactOrderBackSpec : ChangeSpec := { name := "fnExactOrderBack", fn := fun _ => fun
  | [d] => { results := [.lit (.bool true)], args := [d] }
  | _ => none }
def fnExactOrderBackRow : OpenClaim := { program := "ytbjkjoicecmmpaa", sum := "fa2103e7a323a54033cf10f2b7befa6e4b54f9bbb96511cfe76a9353d5d9c62a", func := "loop.example/wholecheck/laws.FnExactOrderBack", spec := "fnExactOrderBack", plainKeys := false, apart := false }
def FnExactOrderBackSaid : Prop := fnExactOrderBackRow.holds Try.pinned (OpenSpec.ofChange fnExactOrderBackSpec)

/-- ITS FALSE NEIGHBOUR: 'it returns false'. Refute it at one input. -/
def fnExactOrderBackWrong : ChangeSpec := { name := "fnExactOrderBack", fn := fun _ => fun
  | [d] => { results := [.lit (.bool false)], args := [d] }
  | _ => none }
def FnExactOrderBackWrongFalsely : Prop := fnExactOrderBackRow.holds Try.pinned (OpenSpec.ofChange fnExactOrderBackWrong)

/-- 'laws.FnSameRun': WHATEVER THE INPUT: true; the input reads as it did. -/
def fnSameRunSpec : ChangeSpec := { name := "fnSameRun", fn := fun _ => fun
  | [d] => { results := [.lit (.bool true)], args := [d] }
  | _ => none }
def fnSameRunRow : OpenClaim := { program := "ytbjkjoicecmmpaa", sum := "fa2103e7a323a54033cf10f2b7befa6e4b54f9bbb96511cfe76a9353d5d9c62a", func := "loop.example/wholecheck/laws.FnSameRun", spec := "fnSameRun", plainKeys := false, apart := false }
def FnSameRunSaid : Prop := fnSameRunRow.holds Try.pinned (OpenSpec.ofChange fnSameRunSpec)

/-- ITS FALSE NEIGHBOUR: 'it returns false'. Refute it at one input. -/
def fnSameRunWrong : ChangeSpec := { name := "fnSameRun", fn := fun _ => fun
  | [d] => { results := [.lit (.bool false)], args := [d] }
  | _ => none }
def FnSameRunWrongFalsely : Prop := fnSameRunRow.holds Try.pinned (OpenSpec.ofChange fnSameRunWrong)

/-- 'laws.FnExactSetBoth': WHATEVER THE INPUT: true; the input reads as it did. -/
def fnExactSetBothSpec : ChangeSpec := { name := "fnExactSetBoth", fn := fun _ => fun
  | [d1, d2] => { results := [.lit (.bool true)], args := [d1, d2] }
  | _ => none }
def fnExactSetBothRow : OpenClaim := { program := "ytbjkjoicecmmpaa", sum := "fa2103e7a323a54033cf10f2b7befa6e4b54f9bbb96511cfe76a9353d5d9c62a", func := "loop.example/wholecheck/laws.FnExactSetBoth", spec := "fnExactSetBoth", unfollowed := true, recurses := true, plainKeys := false, apart := false }
def FnExactSetBothSaid : Prop := fnExactSetBothRow.holds Try.pinned (OpenSpec.ofChange fnExactSetBothSpec)

/-- ITS FALSE NEIGHBOUR: 'it returns false'. Refute it at one input. -/
def fnExactSetBothWrong : ChangeSpec := { name := "fnExactSetBoth", fn := fun _ => fun
  | [d1, d2] => { results := [.lit (.bool false)], args := [d1, d2] }
  | _ => none }
def FnExactSetBothWrongFalsely : Prop := fnExactSetBothRow.holds Try.pinned (OpenSpec.ofChange fnExactSetBothWrong)

/-- 'laws.FnExactSetEither': WHATEVER THE INPUT: true; the input reads as it did. -/
def fnExactSetEitherSpec : ChangeSpec := { name := "fnExactSetEither", fn := fun _ => fun
  | [d1, d2] => { results := [.lit (.bool true)], args := [d1, d2] }
  | _ => none }
def fnExactSetEitherRow : OpenClaim := { program := "ytbjkjoicecmmpaa", sum := "fa2103e7a323a54033cf10f2b7befa6e4b54f9bbb96511cfe76a9353d5d9c62a", func := "loop.example/wholecheck/laws.FnExactSetEither", spec := "fnExactSetEither", unfollowed := true, recurses := true, plainKeys := false, apart := false }
def FnExactSetEitherSaid : Prop := fnExactSetEitherRow.holds Try.pinned (OpenSpec.ofChange fnExactSetEitherSpec)

/-- ITS FALSE NEIGHBOUR: 'it returns false'. Refute it at one input. -/
def fnExactSetEitherWrong : ChangeSpec := { name := "fnExactSetEither", fn := fun _ => fun
  | [d1, d2] => { results := [.lit (.bool false)], args := [d1, d2] }
  | _ => none }
def FnExactSetEitherWrongFalsely : Prop := fnExactSetEitherRow.holds Try.pinned (OpenSpec.ofChange fnExactSetEitherWrong)

/-- 'laws.FnExactSetWithout': WHATEVER THE INPUT: true; the input reads as it did. -/
def fnExactSetWithoutSpec : ChangeSpec := { name := "fnExactSetWithout", fn := fun _ => fun
  | [d1, d2] => { results := [.lit (.bool true)], args := [d1, d2] }
  | _ => none }
def fnExactSetWithoutRow : OpenClaim := { program := "ytbjkjoicecmmpaa", sum := "fa2103e7a323a54033cf10f2b7befa6e4b54f9bbb96511cfe76a9353d5d9c62a", func := "loop.example/wholecheck/laws.FnExactSetWithout", spec := "fnExactSetWithout", unfollowed := true, recurses := true, plainKeys := false, apart := false }
def FnExactSetWithoutSaid : Prop := fnExactSetWithoutRow.holds Try.pinned (OpenSpec.ofChange fnExactSetWithoutSpec)

/-- ITS FALSE NEIGHBOUR: 'it returns false'. Refute it at one input. -/
def fnExactSetWithoutWrong : ChangeSpec := { name := "fnExactSetWithout", fn := fun _ => fun
  | [d1, d2] => { results := [.lit (.bool false)], args := [d1, d2] }
  | _ => none }
def FnExactSetWithoutWrongFalsely : Prop := fnExactSetWithoutRow.holds Try.pinned (OpenSpec.ofChange fnExactSetWithoutWrong)

/- THE SECOND FORM. 'bulk': how many values and letters a reading holds, each counted each time it is reached (what is shared counts as often as it is met; a slice's spare places count too). A statement '..UptoSaid' is the law's where the arguments, and the package variables that the reading takes, are together of bulk at most 1048576: NARROWER than '..Said'. Prove '..Said' where nothing that the law and all that it calls make is longer than what came in: it says more and counts as full. Else prove '..UptoSaid'. A law counts once. -/
mutual
def uptoBulk {H : Type} : DataW H → Nat
  | .lit (.string bytes) => bytes.length + 1
  | .lit _ => 1
  | .nil => 1
  | .ptr d => uptoBulk d + 1
  | .slice elems spare => uptoBulkAll elems + uptoBulkAll spare + 1
  | .agg parts => uptoBulkAll parts + 1
  | .iface _ d => uptoBulk d + 1
  | .map entries => uptoBulkEntries entries + 1
  | .held _ => 1
def uptoBulkAll {H : Type} : List (DataW H) → Nat
  | [] => 0
  | d :: r => uptoBulk d + uptoBulkAll r
def uptoBulkEntries {H : Type} : List (Lit × DataW H) → Nat
  | [] => 0
  | x :: r => uptoBulkEntry x + uptoBulkEntries r
def uptoBulkEntry {H : Type} : Lit × DataW H → Nat
  | (.string bytes, d) => bytes.length + uptoBulk d + 1
  | (_, d) => uptoBulk d + 1
 end
def uptoSmall : (H : Type) → List (DataW H) → Bool := fun _ ds => decide (uptoBulkAll ds ≤ 1048576)
def OpenSpec.upto (s : _root_.Go.ChangeSpec) : _root_.Go.OpenSpec := { _root_.Go.OpenSpec.ofChange s with cond := some uptoSmall }

/-- 'laws.FnExactFixedFrame', WHERE WHAT IT READS IS OF BULK AT MOST 1048576: true; the input reads as it did. -/
def fnExactFixedFrameUptoRow : OpenClaim := { program := "ytbjkjoicecmmpaa", sum := "fa2103e7a323a54033cf10f2b7befa6e4b54f9bbb96511cfe76a9353d5d9c62a", func := "loop.example/wholecheck/laws.FnExactFixedFrame", spec := "fnExactFixedFrame", plainKeys := false, apart := false, narrowed := true }
def FnExactFixedFrameUptoSaid : Prop := fnExactFixedFrameUptoRow.holds Try.pinned (OpenSpec.upto fnExactFixedFrameSpec)

/-- 'laws.FnExactAddOr', WHERE WHAT IT READS IS OF BULK AT MOST 1048576: true; the input reads as it did. -/
def fnExactAddOrUptoRow : OpenClaim := { program := "ytbjkjoicecmmpaa", sum := "fa2103e7a323a54033cf10f2b7befa6e4b54f9bbb96511cfe76a9353d5d9c62a", func := "loop.example/wholecheck/laws.FnExactAddOr", spec := "fnExactAddOr", plainKeys := false, apart := false, narrowed := true }
def FnExactAddOrUptoSaid : Prop := fnExactAddOrUptoRow.holds Try.pinned (OpenSpec.upto fnExactAddOrSpec)

/-- 'laws.FnExactTimesValid', WHERE WHAT IT READS IS OF BULK AT MOST 1048576: true; the input reads as it did. -/
def fnExactTimesValidUptoRow : OpenClaim := { program := "ytbjkjoicecmmpaa", sum := "fa2103e7a323a54033cf10f2b7befa6e4b54f9bbb96511cfe76a9353d5d9c62a", func := "loop.example/wholecheck/laws.FnExactTimesValid", spec := "fnExactTimesValid", plainKeys := false, apart := false, narrowed := true }
def FnExactTimesValidUptoSaid : Prop := fnExactTimesValidUptoRow.holds Try.pinned (OpenSpec.upto fnExactTimesValidSpec)

/-- 'laws.FnExactWordValid', WHERE WHAT IT READS IS OF BULK AT MOST 1048576: true; the input reads as it did. -/
def fnExactWordValidUptoRow : OpenClaim := { program := "ytbjkjoicecmmpaa", sum := "fa2103e7a323a54033cf10f2b7befa6e4b54f9bbb96511cfe76a9353d5d9c62a", func := "loop.example/wholecheck/laws.FnExactWordValid", spec := "fnExactWordValid", unfollowed := true, recurses := true, plainKeys := false, apart := false, narrowed := true }
def FnExactWordValidUptoSaid : Prop := fnExactWordValidUptoRow.holds Try.pinned (OpenSpec.upto fnExactWordValidSpec)

/-- 'laws.FnExactCubeMeet', WHERE WHAT IT READS IS OF BULK AT MOST 1048576: true; the input reads as it did. -/
def fnExactCubeMeetUptoRow : OpenClaim := { program := "ytbjkjoicecmmpaa", sum := "fa2103e7a323a54033cf10f2b7befa6e4b54f9bbb96511cfe76a9353d5d9c62a", func := "loop.example/wholecheck/laws.FnExactCubeMeet", spec := "fnExactCubeMeet", unfollowed := true, recurses := true, plainKeys := false, apart := false, narrowed := true }
def FnExactCubeMeetUptoSaid : Prop := fnExactCubeMeetUptoRow.holds Try.pinned (OpenSpec.upto fnExactCubeMeetSpec)

/-- 'laws.FnValueBits', WHERE WHAT IT READS IS OF BULK AT MOST 1048576: true; the input reads as it did. -/
def fnValueBitsUptoRow : OpenClaim := { program := "ytbjkjoicecmmpaa", sum := "fa2103e7a323a54033cf10f2b7befa6e4b54f9bbb96511cfe76a9353d5d9c62a", func := "loop.example/wholecheck/laws.FnValueBits", spec := "fnValueBits", unfollowed := true, recurses := true, plainKeys := false, apart := false, narrowed := true }
def FnValueBitsUptoSaid : Prop := fnValueBitsUptoRow.holds Try.pinned (OpenSpec.upto fnValueBitsSpec)

/-- 'laws.FnExactTreesValid', WHERE WHAT IT READS IS OF BULK AT MOST 1048576: true; the input reads as it did. -/
def fnExactTreesValidUptoRow : OpenClaim := { program := "ytbjkjoicecmmpaa", sum := "fa2103e7a323a54033cf10f2b7befa6e4b54f9bbb96511cfe76a9353d5d9c62a", func := "loop.example/wholecheck/laws.FnExactTreesValid", spec := "fnExactTreesValid", plainKeys := false, apart := false, narrowed := true }
def FnExactTreesValidUptoSaid : Prop := fnExactTreesValidUptoRow.holds Try.pinned (OpenSpec.upto fnExactTreesValidSpec)

/-- 'laws.FnExactOrderBack', WHERE WHAT IT READS IS OF BULK AT MOST 1048576: true; the input reads as it did. -/
def fnExactOrderBackUptoRow : OpenClaim := { program := "ytbjkjoicecmmpaa", sum := "fa2103e7a323a54033cf10f2b7befa6e4b54f9bbb96511cfe76a9353d5d9c62a", func := "loop.example/wholecheck/laws.FnExactOrderBack", spec := "fnExactOrderBack", plainKeys := false, apart := false, narrowed := true }
def FnExactOrderBackUptoSaid : Prop := fnExactOrderBackUptoRow.holds Try.pinned (OpenSpec.upto fnExactOrderBackSpec)

/-- 'laws.FnSameRun', WHERE WHAT IT READS IS OF BULK AT MOST 1048576: true; the input reads as it did. -/
def fnSameRunUptoRow : OpenClaim := { program := "ytbjkjoicecmmpaa", sum := "fa2103e7a323a54033cf10f2b7befa6e4b54f9bbb96511cfe76a9353d5d9c62a", func := "loop.example/wholecheck/laws.FnSameRun", spec := "fnSameRun", plainKeys := false, apart := false, narrowed := true }
def FnSameRunUptoSaid : Prop := fnSameRunUptoRow.holds Try.pinned (OpenSpec.upto fnSameRunSpec)

/-- 'laws.FnExactSetBoth', WHERE WHAT IT READS IS OF BULK AT MOST 1048576: true; the input reads as it did. -/
def fnExactSetBothUptoRow : OpenClaim := { program := "ytbjkjoicecmmpaa", sum := "fa2103e7a323a54033cf10f2b7befa6e4b54f9bbb96511cfe76a9353d5d9c62a", func := "loop.example/wholecheck/laws.FnExactSetBoth", spec := "fnExactSetBoth", unfollowed := true, recurses := true, plainKeys := false, apart := false, narrowed := true }
def FnExactSetBothUptoSaid : Prop := fnExactSetBothUptoRow.holds Try.pinned (OpenSpec.upto fnExactSetBothSpec)

/-- 'laws.FnExactSetEither', WHERE WHAT IT READS IS OF BULK AT MOST 1048576: true; the input reads as it did. -/
def fnExactSetEitherUptoRow : OpenClaim := { program := "ytbjkjoicecmmpaa", sum := "fa2103e7a323a54033cf10f2b7befa6e4b54f9bbb96511cfe76a9353d5d9c62a", func := "loop.example/wholecheck/laws.FnExactSetEither", spec := "fnExactSetEither", unfollowed := true, recurses := true, plainKeys := false, apart := false, narrowed := true }
def FnExactSetEitherUptoSaid : Prop := fnExactSetEitherUptoRow.holds Try.pinned (OpenSpec.upto fnExactSetEitherSpec)

/-- 'laws.FnExactSetWithout', WHERE WHAT IT READS IS OF BULK AT MOST 1048576: true; the input reads as it did. -/
def fnExactSetWithoutUptoRow : OpenClaim := { program := "ytbjkjoicecmmpaa", sum := "fa2103e7a323a54033cf10f2b7befa6e4b54f9bbb96511cfe76a9353d5d9c62a", func := "loop.example/wholecheck/laws.FnExactSetWithout", spec := "fnExactSetWithout", unfollowed := true, recurses := true, plainKeys := false, apart := false, narrowed := true }
def FnExactSetWithoutUptoSaid : Prop := fnExactSetWithoutUptoRow.holds Try.pinned (OpenSpec.upto fnExactSetWithoutSpec)

end Rows
end Go.Proofs.Ytbjkjoicecmmpaa
