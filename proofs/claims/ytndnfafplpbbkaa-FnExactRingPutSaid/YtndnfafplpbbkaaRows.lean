/-
  No cell of these rows narrows 'for every input' (looked for: loops, veiled, ifaces, maps, wideKeys, modest, calm, conditions, laid).
  DERIVED. THE GIVEN ROWS OF THIS SEAT. 12 by the template 'for every input the law returns true; each argument reads behind the call as it read before'; 0 by the template 'total and deterministic' (their statements: YtndnfafplpbbkaaTotals.lean).
  GIVEN WITH THE SEED: the statements are not yours to turn. If you find one false, say at which input.
  Laid BY PROGRAM, IN A SANDBOX (cutbox-rows.mjs): the forced cells as the released guide's own fill.sh prints them over the translation 63a167e235469d89… (all of the seat's roots in one cut). By AI agents, Wed Nov 11 2026. No macro, syntax, notation, axiom, sorry.
-/
import Derived.Test.YtndnfafplpbbkaaChecked
import GoSem.Claim
import GoSem.ClaimJoined
import GoSem.ClaimMapViews
import Derived.JoinedTies
import Derived.KernelRfl
namespace Go.Proofs.Ytndnfafplpbbkaa
/- THE CELL 'sum', in the pinned program and in every row, IS THE sha256 OF THE DUMP (.gsa) THAT YtndnfafplpbbkaaProg.lean LOADS. Nothing in Lean hashes anything: it is a label: what it is worth is what the hold of that sum in a sandbox is worth. -/
noncomputable def Try.pinned : Pinned := { name := "ytndnfafplpbbkaa", sum := "63a167e235469d89421f44a4e9282362811aab66e1c3c21bac4c525298c3163f", checked := Try.checked }
namespace Rows
def none {H : Type} : Left H := { results := [], args := [] }

/-- 'laws.FnExactRingOk': WHATEVER THE INPUT: true; the input reads as it did. -/
def fnExactRingOkSpec : ChangeSpec := { name := "fnExactRingOk", fn := fun _ => fun
  | [d] => { results := [.lit (.bool true)], args := [d] }
  | _ => none }
def fnExactRingOkRow : OpenClaim := { program := "ytndnfafplpbbkaa", sum := "63a167e235469d89421f44a4e9282362811aab66e1c3c21bac4c525298c3163f", func := "loop.example/g00231/laws.FnExactRingOk", spec := "fnExactRingOk", apart := false }
def FnExactRingOkSaid : Prop := fnExactRingOkRow.holds Try.pinned (OpenSpec.ofChange fnExactRingOkSpec)

/-- ITS FALSE NEIGHBOUR: 'it returns false'. Refute it at one input. -/
def fnExactRingOkWrong : ChangeSpec := { name := "fnExactRingOk", fn := fun _ => fun
  | [d] => { results := [.lit (.bool false)], args := [d] }
  | _ => none }
def FnExactRingOkWrongFalsely : Prop := fnExactRingOkRow.holds Try.pinned (OpenSpec.ofChange fnExactRingOkWrong)

/-- 'laws.FnExactRingNew': WHATEVER THE INPUT: true; the input reads as it did. -/
def fnExactRingNewSpec : ChangeSpec := { name := "fnExactRingNew", fn := fun _ => fun
  | [d] => { results := [.lit (.bool true)], args := [d] }
  | _ => none }
def fnExactRingNewRow : OpenClaim := { program := "ytndnfafplpbbkaa", sum := "63a167e235469d89421f44a4e9282362811aab66e1c3c21bac4c525298c3163f", func := "loop.example/g00231/laws.FnExactRingNew", spec := "fnExactRingNew", apart := false }
def FnExactRingNewSaid : Prop := fnExactRingNewRow.holds Try.pinned (OpenSpec.ofChange fnExactRingNewSpec)

/-- ITS FALSE NEIGHBOUR: 'it returns false'. Refute it at one input. -/
def fnExactRingNewWrong : ChangeSpec := { name := "fnExactRingNew", fn := fun _ => fun
  | [d] => { results := [.lit (.bool false)], args := [d] }
  | _ => none }
def FnExactRingNewWrongFalsely : Prop := fnExactRingNewRow.holds Try.pinned (OpenSpec.ofChange fnExactRingNewWrong)

/-- 'laws.FnExactRingHead': WHATEVER THE INPUT: true; the input reads as it did. -/
def fnExactRingHeadSpec : ChangeSpec := { name := "fnExactRingHead", fn := fun _ => fun
  | [d] => { results := [.lit (.bool true)], args := [d] }
  | _ => none }
def fnExactRingHeadRow : OpenClaim := { program := "ytndnfafplpbbkaa", sum := "63a167e235469d89421f44a4e9282362811aab66e1c3c21bac4c525298c3163f", func := "loop.example/g00231/laws.FnExactRingHead", spec := "fnExactRingHead", apart := false }
def FnExactRingHeadSaid : Prop := fnExactRingHeadRow.holds Try.pinned (OpenSpec.ofChange fnExactRingHeadSpec)

/-- ITS FALSE NEIGHBOUR: 'it returns false'. Refute it at one input. -/
def fnExactRingHeadWrong : ChangeSpec := { name := "fnExactRingHead", fn := fun _ => fun
  | [d] => { results := [.lit (.bool false)], args := [d] }
  | _ => none }
def FnExactRingHeadWrongFalsely : Prop := fnExactRingHeadRow.holds Try.pinned (OpenSpec.ofChange fnExactRingHeadWrong)

/-- 'laws.FnExactRingPut': WHATEVER THE INPUT: true; the input reads as it did. -/
def fnExactRingPutSpec : ChangeSpec := { name := "fnExactRingPut", fn := fun _ => fun
  | [d1, d2] => { results := [.lit (.bool true)], args := [d1, d2] }
  | _ => none }
def fnExactRingPutRow : OpenClaim := { program := "ytndnfafplpbbkaa", sum := "63a167e235469d89421f44a4e9282362811aab66e1c3c21bac4c525298c3163f", func := "loop.example/g00231/laws.FnExactRingPut", spec := "fnExactRingPut", apart := false }
def FnExactRingPutSaid : Prop := fnExactRingPutRow.holds Try.pinned (OpenSpec.ofChange fnExactRingPutSpec)

/-- ITS FALSE NEIGHBOUR: 'it returns false'. Refute it at one input. -/
def fnExactRingPutWrong : ChangeSpec := { name := "fnExactRingPut", fn := fun _ => fun
  | [d1, d2] => { results := [.lit (.bool false)], args := [d1, d2] }
  | _ => none }
def FnExactRingPutWrongFalsely : Prop := fnExactRingPutRow.holds Try.pinned (OpenSpec.ofChange fnExactRingPutWrong)

/-- 'laws.FnExactRingTake': WHATEVER THE INPUT: true; the input reads as it did. -/
def fnExactRingTakeSpec : ChangeSpec := { name := "fnExactRingTake", fn := fun _ => fun
  | [d] => { results := [.lit (.bool true)], args := [d] }
  | _ => none }
def fnExactRingTakeRow : OpenClaim := { program := "ytndnfafplpbbkaa", sum := "63a167e235469d89421f44a4e9282362811aab66e1c3c21bac4c525298c3163f", func := "loop.example/g00231/laws.FnExactRingTake", spec := "fnExactRingTake", apart := false }
def FnExactRingTakeSaid : Prop := fnExactRingTakeRow.holds Try.pinned (OpenSpec.ofChange fnExactRingTakeSpec)

/-- ITS FALSE NEIGHBOUR: 'it returns false'. Refute it at one input. -/
def fnExactRingTakeWrong : ChangeSpec := { name := "fnExactRingTake", fn := fun _ => fun
  | [d] => { results := [.lit (.bool false)], args := [d] }
  | _ => none }
def FnExactRingTakeWrongFalsely : Prop := fnExactRingTakeRow.holds Try.pinned (OpenSpec.ofChange fnExactRingTakeWrong)

/-- 'laws.FnExactSoundOk': WHATEVER THE INPUT: true; the input reads as it did. -/
def fnExactSoundOkSpec : ChangeSpec := { name := "fnExactSoundOk", fn := fun _ => fun
  | [d] => { results := [.lit (.bool true)], args := [d] }
  | _ => none }
def fnExactSoundOkRow : OpenClaim := { program := "ytndnfafplpbbkaa", sum := "63a167e235469d89421f44a4e9282362811aab66e1c3c21bac4c525298c3163f", func := "loop.example/g00231/laws.FnExactSoundOk", spec := "fnExactSoundOk", apart := false }
def FnExactSoundOkSaid : Prop := fnExactSoundOkRow.holds Try.pinned (OpenSpec.ofChange fnExactSoundOkSpec)

/-- ITS FALSE NEIGHBOUR: 'it returns false'. Refute it at one input. -/
def fnExactSoundOkWrong : ChangeSpec := { name := "fnExactSoundOk", fn := fun _ => fun
  | [d] => { results := [.lit (.bool false)], args := [d] }
  | _ => none }
def FnExactSoundOkWrongFalsely : Prop := fnExactSoundOkRow.holds Try.pinned (OpenSpec.ofChange fnExactSoundOkWrong)

/-- 'laws.FnExactPpuOk': WHATEVER THE INPUT: true; the input reads as it did. -/
def fnExactPpuOkSpec : ChangeSpec := { name := "fnExactPpuOk", fn := fun _ => fun
  | [d] => { results := [.lit (.bool true)], args := [d] }
  | _ => none }
def fnExactPpuOkRow : OpenClaim := { program := "ytndnfafplpbbkaa", sum := "63a167e235469d89421f44a4e9282362811aab66e1c3c21bac4c525298c3163f", func := "loop.example/g00231/laws.FnExactPpuOk", spec := "fnExactPpuOk", apart := false }
def FnExactPpuOkSaid : Prop := fnExactPpuOkRow.holds Try.pinned (OpenSpec.ofChange fnExactPpuOkSpec)

/-- ITS FALSE NEIGHBOUR: 'it returns false'. Refute it at one input. -/
def fnExactPpuOkWrong : ChangeSpec := { name := "fnExactPpuOk", fn := fun _ => fun
  | [d] => { results := [.lit (.bool false)], args := [d] }
  | _ => none }
def FnExactPpuOkWrongFalsely : Prop := fnExactPpuOkRow.holds Try.pinned (OpenSpec.ofChange fnExactPpuOkWrong)

/-- 'laws.FnExactDot': WHATEVER THE INPUT: true; the input reads as it did. -/
def fnExactDotSpec : ChangeSpec := { name := "fnExactDot", fn := fun _ => fun
  | [d1, d2] => { results := [.lit (.bool true)], args := [d1, d2] }
  | _ => none }
def fnExactDotRow : OpenClaim := { program := "ytndnfafplpbbkaa", sum := "63a167e235469d89421f44a4e9282362811aab66e1c3c21bac4c525298c3163f", func := "loop.example/g00231/laws.FnExactDot", spec := "fnExactDot", apart := false }
def FnExactDotSaid : Prop := fnExactDotRow.holds Try.pinned (OpenSpec.ofChange fnExactDotSpec)

/-- ITS FALSE NEIGHBOUR: 'it returns false'. Refute it at one input. -/
def fnExactDotWrong : ChangeSpec := { name := "fnExactDot", fn := fun _ => fun
  | [d1, d2] => { results := [.lit (.bool false)], args := [d1, d2] }
  | _ => none }
def FnExactDotWrongFalsely : Prop := fnExactDotRow.holds Try.pinned (OpenSpec.ofChange fnExactDotWrong)

/-- 'laws.FnExactPictureOk': WHATEVER THE INPUT: true; the input reads as it did. -/
def fnExactPictureOkSpec : ChangeSpec := { name := "fnExactPictureOk", fn := fun _ => fun
  | [d] => { results := [.lit (.bool true)], args := [d] }
  | _ => none }
def fnExactPictureOkRow : OpenClaim := { program := "ytndnfafplpbbkaa", sum := "63a167e235469d89421f44a4e9282362811aab66e1c3c21bac4c525298c3163f", func := "loop.example/g00231/laws.FnExactPictureOk", spec := "fnExactPictureOk", apart := false }
def FnExactPictureOkSaid : Prop := fnExactPictureOkRow.holds Try.pinned (OpenSpec.ofChange fnExactPictureOkSpec)

/-- ITS FALSE NEIGHBOUR: 'it returns false'. Refute it at one input. -/
def fnExactPictureOkWrong : ChangeSpec := { name := "fnExactPictureOk", fn := fun _ => fun
  | [d] => { results := [.lit (.bool false)], args := [d] }
  | _ => none }
def FnExactPictureOkWrongFalsely : Prop := fnExactPictureOkRow.holds Try.pinned (OpenSpec.ofChange fnExactPictureOkWrong)

/-- 'laws.FnExactPpuWrite': WHATEVER THE INPUT: true; the input reads as it did. -/
def fnExactPpuWriteSpec : ChangeSpec := { name := "fnExactPpuWrite", fn := fun _ => fun
  | [d1, d2, d3] => { results := [.lit (.bool true)], args := [d1, d2, d3] }
  | _ => none }
def fnExactPpuWriteRow : OpenClaim := { program := "ytndnfafplpbbkaa", sum := "63a167e235469d89421f44a4e9282362811aab66e1c3c21bac4c525298c3163f", func := "loop.example/g00231/laws.FnExactPpuWrite", spec := "fnExactPpuWrite", apart := false }
def FnExactPpuWriteSaid : Prop := fnExactPpuWriteRow.holds Try.pinned (OpenSpec.ofChange fnExactPpuWriteSpec)

/-- ITS FALSE NEIGHBOUR: 'it returns false'. Refute it at one input. -/
def fnExactPpuWriteWrong : ChangeSpec := { name := "fnExactPpuWrite", fn := fun _ => fun
  | [d1, d2, d3] => { results := [.lit (.bool false)], args := [d1, d2, d3] }
  | _ => none }
def FnExactPpuWriteWrongFalsely : Prop := fnExactPpuWriteRow.holds Try.pinned (OpenSpec.ofChange fnExactPpuWriteWrong)

/-- 'laws.FnExactPpuRead': WHATEVER THE INPUT: true; the input reads as it did. -/
def fnExactPpuReadSpec : ChangeSpec := { name := "fnExactPpuRead", fn := fun _ => fun
  | [d1, d2] => { results := [.lit (.bool true)], args := [d1, d2] }
  | _ => none }
def fnExactPpuReadRow : OpenClaim := { program := "ytndnfafplpbbkaa", sum := "63a167e235469d89421f44a4e9282362811aab66e1c3c21bac4c525298c3163f", func := "loop.example/g00231/laws.FnExactPpuRead", spec := "fnExactPpuRead", apart := false }
def FnExactPpuReadSaid : Prop := fnExactPpuReadRow.holds Try.pinned (OpenSpec.ofChange fnExactPpuReadSpec)

/-- ITS FALSE NEIGHBOUR: 'it returns false'. Refute it at one input. -/
def fnExactPpuReadWrong : ChangeSpec := { name := "fnExactPpuRead", fn := fun _ => fun
  | [d1, d2] => { results := [.lit (.bool false)], args := [d1, d2] }
  | _ => none }
def FnExactPpuReadWrongFalsely : Prop := fnExactPpuReadRow.holds Try.pinned (OpenSpec.ofChange fnExactPpuReadWrong)

/-- 'laws.FnExactPpuTick': WHATEVER THE INPUT: true; the input reads as it did. -/
def fnExactPpuTickSpec : ChangeSpec := { name := "fnExactPpuTick", fn := fun _ => fun
  | [d] => { results := [.lit (.bool true)], args := [d] }
  | _ => none }
def fnExactPpuTickRow : OpenClaim := { program := "ytndnfafplpbbkaa", sum := "63a167e235469d89421f44a4e9282362811aab66e1c3c21bac4c525298c3163f", func := "loop.example/g00231/laws.FnExactPpuTick", spec := "fnExactPpuTick", apart := false }
def FnExactPpuTickSaid : Prop := fnExactPpuTickRow.holds Try.pinned (OpenSpec.ofChange fnExactPpuTickSpec)

/-- ITS FALSE NEIGHBOUR: 'it returns false'. Refute it at one input. -/
def fnExactPpuTickWrong : ChangeSpec := { name := "fnExactPpuTick", fn := fun _ => fun
  | [d] => { results := [.lit (.bool false)], args := [d] }
  | _ => none }
def FnExactPpuTickWrongFalsely : Prop := fnExactPpuTickRow.holds Try.pinned (OpenSpec.ofChange fnExactPpuTickWrong)

/- THE SECOND FORM. 'bulk': how many values and letters a reading holds, each counted each time it is reached (what is shared counts as often as it is met; a slice's spare places count too). A statement '..UptoSaid' is the law's where the arguments, and the package variables that the reading takes, are together of bulk at most 1048576: NARROWER than '..Said'. Prove '..Said' where nothing that the law and all that it calls make is longer than what came in: it says more and counts as full. Else prove '..UptoSaid'. A law counts once. -/
mutual
def uptoBulk {H : Type} : DataW H → Nat
  | .lit (.string bytes) => bytes.length + 1
  | .lit _ => 1
  | .nil => 1
  | .ptr d => uptoBulk d + 1
  | .slice elems spare => uptoBulkAll elems + uptoBulkAll spare + 1
  | .agg parts => uptoBulkAll parts + 1
  | .iface _ d => uptoBulk d + 1
  | .map entries => uptoBulkEntries entries + 1
  | .held _ => 1
def uptoBulkAll {H : Type} : List (DataW H) → Nat
  | [] => 0
  | d :: r => uptoBulk d + uptoBulkAll r
def uptoBulkEntries {H : Type} : List (Lit × DataW H) → Nat
  | [] => 0
  | x :: r => uptoBulkEntry x + uptoBulkEntries r
def uptoBulkEntry {H : Type} : Lit × DataW H → Nat
  | (.string bytes, d) => bytes.length + uptoBulk d + 1
  | (_, d) => uptoBulk d + 1
 end
def uptoSmall : (H : Type) → List (DataW H) → Bool := fun _ ds => decide (uptoBulkAll ds ≤ 1048576)
def OpenSpec.upto (s : _root_.Go.ChangeSpec) : _root_.Go.OpenSpec := { _root_.Go.OpenSpec.ofChange s with cond := some uptoSmall }

/-- 'laws.FnExactRingOk', WHERE WHAT IT READS IS OF BULK AT MOST 1048576: true; the input reads as it did. -/
def fnExactRingOkUptoRow : OpenClaim := { program := "ytndnfafplpbbkaa", sum := "63a167e235469d89421f44a4e9282362811aab66e1c3c21bac4c525298c3163f", func := "loop.example/g00231/laws.FnExactRingOk", spec := "fnExactRingOk", apart := false, narrowed := true }
def FnExactRingOkUptoSaid : Prop := fnExactRingOkUptoRow.holds Try.pinned (OpenSpec.upto fnExactRingOkSpec)

/-- 'laws.FnExactRingNew', WHERE WHAT IT READS IS OF BULK AT MOST 1048576: true; the input reads as it did. -/
def fnExactRingNewUptoRow : OpenClaim := { program := "ytndnfafplpbbkaa", sum := "63a167e235469d89421f44a4e9282362811aab66e1c3c21bac4c525298c3163f", func := "loop.example/g00231/laws.FnExactRingNew", spec := "fnExactRingNew", apart := false, narrowed := true }
def FnExactRingNewUptoSaid : Prop := fnExactRingNewUptoRow.holds Try.pinned (OpenSpec.upto fnExactRingNewSpec)

/-- 'laws.FnExactRingHead', WHERE WHAT IT READS IS OF BULK AT MOST 1048576: true; the input reads as it did. -/
def fnExactRingHeadUptoRow : OpenClaim := { program := "ytndnfafplpbbkaa", sum := "63a167e235469d89421f44a4e9282362811aab66e1c3c21bac4c525298c3163f", func := "loop.example/g00231/laws.FnExactRingHead", spec := "fnExactRingHead", apart := false, narrowed := true }
def FnExactRingHeadUptoSaid : Prop := fnExactRingHeadUptoRow.holds Try.pinned (OpenSpec.upto fnExactRingHeadSpec)

/-- 'laws.FnExactRingPut', WHERE WHAT IT READS IS OF BULK AT MOST 1048576: true; the input reads as it did. -/
def fnExactRingPutUptoRow : OpenClaim := { program := "ytndnfafplpbbkaa", sum := "63a167e235469d89421f44a4e9282362811aab66e1c3c21bac4c525298c3163f", func := "loop.example/g00231/laws.FnExactRingPut", spec := "fnExactRingPut", apart := false, narrowed := true }
def FnExactRingPutUptoSaid : Prop := fnExactRingPutUptoRow.holds Try.pinned (OpenSpec.upto fnExactRingPutSpec)

/-- 'laws.FnExactRingTake', WHERE WHAT IT READS IS OF BULK AT MOST 1048576: true; the input reads as it did. -/
def fnExactRingTakeUptoRow : OpenClaim := { program := "ytndnfafplpbbkaa", sum := "63a167e235469d89421f44a4e9282362811aab66e1c3c21bac4c525298c3163f", func := "loop.example/g00231/laws.FnExactRingTake", spec := "fnExactRingTake", apart := false, narrowed := true }
def FnExactRingTakeUptoSaid : Prop := fnExactRingTakeUptoRow.holds Try.pinned (OpenSpec.upto fnExactRingTakeSpec)

/-- 'laws.FnExactSoundOk', WHERE WHAT IT READS IS OF BULK AT MOST 1048576: true; the input reads as it did. -/
def fnExactSoundOkUptoRow : OpenClaim := { program := "ytndnfafplpbbkaa", sum := "63a167e235469d89421f44a4e9282362811aab66e1c3c21bac4c525298c3163f", func := "loop.example/g00231/laws.FnExactSoundOk", spec := "fnExactSoundOk", apart := false, narrowed := true }
def FnExactSoundOkUptoSaid : Prop := fnExactSoundOkUptoRow.holds Try.pinned (OpenSpec.upto fnExactSoundOkSpec)

/-- 'laws.FnExactPpuOk', WHERE WHAT IT READS IS OF BULK AT MOST 1048576: true; the input reads as it did. -/
def fnExactPpuOkUptoRow : OpenClaim := { program := "ytndnfafplpbbkaa", sum := "63a167e235469d89421f44a4e9282362811aab66e1c3c21bac4c525298c3163f", func := "loop.example/g00231/laws.FnExactPpuOk", spec := "fnExactPpuOk", apart := false, narrowed := true }
def FnExactPpuOkUptoSaid : Prop := fnExactPpuOkUptoRow.holds Try.pinned (OpenSpec.upto fnExactPpuOkSpec)

/-- 'laws.FnExactDot', WHERE WHAT IT READS IS OF BULK AT MOST 1048576: true; the input reads as it did. -/
def fnExactDotUptoRow : OpenClaim := { program := "ytndnfafplpbbkaa", sum := "63a167e235469d89421f44a4e9282362811aab66e1c3c21bac4c525298c3163f", func := "loop.example/g00231/laws.FnExactDot", spec := "fnExactDot", apart := false, narrowed := true }
def FnExactDotUptoSaid : Prop := fnExactDotUptoRow.holds Try.pinned (OpenSpec.upto fnExactDotSpec)

/-- 'laws.FnExactPictureOk', WHERE WHAT IT READS IS OF BULK AT MOST 1048576: true; the input reads as it did. -/
def fnExactPictureOkUptoRow : OpenClaim := { program := "ytndnfafplpbbkaa", sum := "63a167e235469d89421f44a4e9282362811aab66e1c3c21bac4c525298c3163f", func := "loop.example/g00231/laws.FnExactPictureOk", spec := "fnExactPictureOk", apart := false, narrowed := true }
def FnExactPictureOkUptoSaid : Prop := fnExactPictureOkUptoRow.holds Try.pinned (OpenSpec.upto fnExactPictureOkSpec)

/-- 'laws.FnExactPpuWrite', WHERE WHAT IT READS IS OF BULK AT MOST 1048576: true; the input reads as it did. -/
def fnExactPpuWriteUptoRow : OpenClaim := { program := "ytndnfafplpbbkaa", sum := "63a167e235469d89421f44a4e9282362811aab66e1c3c21bac4c525298c3163f", func := "loop.example/g00231/laws.FnExactPpuWrite", spec := "fnExactPpuWrite", apart := false, narrowed := true }
def FnExactPpuWriteUptoSaid : Prop := fnExactPpuWriteUptoRow.holds Try.pinned (OpenSpec.upto fnExactPpuWriteSpec)

/-- 'laws.FnExactPpuRead', WHERE WHAT IT READS IS OF BULK AT MOST 1048576: true; the input reads as it did. -/
def fnExactPpuReadUptoRow : OpenClaim := { program := "ytndnfafplpbbkaa", sum := "63a167e235469d89421f44a4e9282362811aab66e1c3c21bac4c525298c3163f", func := "loop.example/g00231/laws.FnExactPpuRead", spec := "fnExactPpuRead", apart := false, narrowed := true }
def FnExactPpuReadUptoSaid : Prop := fnExactPpuReadUptoRow.holds Try.pinned (OpenSpec.upto fnExactPpuReadSpec)

/-- 'laws.FnExactPpuTick', WHERE WHAT IT READS IS OF BULK AT MOST 1048576: true; the input reads as it did. -/
def fnExactPpuTickUptoRow : OpenClaim := { program := "ytndnfafplpbbkaa", sum := "63a167e235469d89421f44a4e9282362811aab66e1c3c21bac4c525298c3163f", func := "loop.example/g00231/laws.FnExactPpuTick", spec := "fnExactPpuTick", apart := false, narrowed := true }
def FnExactPpuTickUptoSaid : Prop := fnExactPpuTickUptoRow.holds Try.pinned (OpenSpec.upto fnExactPpuTickSpec)

end Rows
end Go.Proofs.Ytndnfafplpbbkaa
