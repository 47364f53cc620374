/-
  No cell of these rows narrows 'for every input' (looked for: loops, veiled, ifaces, maps, wideKeys, modest, calm, conditions, laid).
  DERIVED. THE GIVEN ROWS OF THIS SEAT. 12 by the template 'for every input the law returns true; each argument reads behind the call as it read before'; 0 by the template 'total and deterministic' (their statements: YtdgbcgbpmhkkjaaTotals.lean).
  GIVEN WITH THE SEED: the statements are not yours to turn. If you find one false, say at which input.
  Laid BY PROGRAM, IN A SANDBOX (cutbox-rows.mjs): the forced cells as the released guide's own fill.sh prints them over the translation 4f42501d9aaeb183… (all of the seat's roots in one cut). By AI agents, Wed Nov 11 2026. No macro, syntax, notation, axiom, sorry.
-/
import Derived.Test.YtdgbcgbpmhkkjaaChecked
import GoSem.Claim
import GoSem.ClaimJoined
import GoSem.ClaimMapViews
import Derived.JoinedTies
import Derived.KernelRfl
namespace Go.Proofs.Ytdgbcgbpmhkkjaa
/- THE CELL 'sum', in the pinned program and in every row, IS THE sha256 OF THE DUMP (.gsa) THAT YtdgbcgbpmhkkjaaProg.lean LOADS. Nothing in Lean hashes anything: it is a label: what it is worth is what the hold of that sum in a sandbox is worth. -/
noncomputable def Try.pinned : Pinned := { name := "ytdgbcgbpmhkkjaa", sum := "4f42501d9aaeb1839e4648ac7a3554879cfafd913df0cd0d04e2136c0095852c", checked := Try.checked }
namespace Rows
def none {H : Type} : Left H := { results := [], args := [] }

/-- 'laws.FnExactFrameOf': WHATEVER THE INPUT: true; the input reads as it did. -/
def fnExactFrameOfSpec : ChangeSpec := { name := "fnExactFrameOf", fn := fun _ => fun
  | [d] => { results := [.lit (.bool true)], args := [d] }
  | _ => none }
def fnExactFrameOfRow : OpenClaim := { program := "ytdgbcgbpmhkkjaa", sum := "4f42501d9aaeb1839e4648ac7a3554879cfafd913df0cd0d04e2136c0095852c", func := "loop.example/g00231/laws.FnExactFrameOf", spec := "fnExactFrameOf", apart := false }
def FnExactFrameOfSaid : Prop := fnExactFrameOfRow.holds Try.pinned (OpenSpec.ofChange fnExactFrameOfSpec)

/-- ITS FALSE NEIGHBOUR: 'it returns false'. Refute it at one input. -/
def fnExactFrameOfWrong : ChangeSpec := { name := "fnExactFrameOf", fn := fun _ => fun
  | [d] => { results := [.lit (.bool false)], args := [d] }
  | _ => none }
def FnExactFrameOfWrongFalsely : Prop := fnExactFrameOfRow.holds Try.pinned (OpenSpec.ofChange fnExactFrameOfWrong)

/-- 'laws.FnExactNextBlank': WHATEVER THE INPUT: true; the input reads as it did. -/
def fnExactNextBlankSpec : ChangeSpec := { name := "fnExactNextBlank", fn := fun _ => fun
  | [d] => { results := [.lit (.bool true)], args := [d] }
  | _ => none }
def fnExactNextBlankRow : OpenClaim := { program := "ytdgbcgbpmhkkjaa", sum := "4f42501d9aaeb1839e4648ac7a3554879cfafd913df0cd0d04e2136c0095852c", func := "loop.example/g00231/laws.FnExactNextBlank", spec := "fnExactNextBlank", apart := false }
def FnExactNextBlankSaid : Prop := fnExactNextBlankRow.holds Try.pinned (OpenSpec.ofChange fnExactNextBlankSpec)

/-- ITS FALSE NEIGHBOUR: 'it returns false'. Refute it at one input. -/
def fnExactNextBlankWrong : ChangeSpec := { name := "fnExactNextBlank", fn := fun _ => fun
  | [d] => { results := [.lit (.bool false)], args := [d] }
  | _ => none }
def FnExactNextBlankWrongFalsely : Prop := fnExactNextBlankRow.holds Try.pinned (OpenSpec.ofChange fnExactNextBlankWrong)

/-- 'laws.FnExactApuOk': WHATEVER THE INPUT: true; the input reads as it did. -/
def fnExactApuOkSpec : ChangeSpec := { name := "fnExactApuOk", fn := fun _ => fun
  | [d] => { results := [.lit (.bool true)], args := [d] }
  | _ => none }
def fnExactApuOkRow : OpenClaim := { program := "ytdgbcgbpmhkkjaa", sum := "4f42501d9aaeb1839e4648ac7a3554879cfafd913df0cd0d04e2136c0095852c", func := "loop.example/g00231/laws.FnExactApuOk", spec := "fnExactApuOk", apart := false }
def FnExactApuOkSaid : Prop := fnExactApuOkRow.holds Try.pinned (OpenSpec.ofChange fnExactApuOkSpec)

/-- ITS FALSE NEIGHBOUR: 'it returns false'. Refute it at one input. -/
def fnExactApuOkWrong : ChangeSpec := { name := "fnExactApuOk", fn := fun _ => fun
  | [d] => { results := [.lit (.bool false)], args := [d] }
  | _ => none }
def FnExactApuOkWrongFalsely : Prop := fnExactApuOkRow.holds Try.pinned (OpenSpec.ofChange fnExactApuOkWrong)

/-- 'laws.FnExactBeatIn': WHATEVER THE INPUT: true; the input reads as it did. -/
def fnExactBeatInSpec : ChangeSpec := { name := "fnExactBeatIn", fn := fun _ => fun
  | [d1, d2] => { results := [.lit (.bool true)], args := [d1, d2] }
  | _ => none }
def fnExactBeatInRow : OpenClaim := { program := "ytdgbcgbpmhkkjaa", sum := "4f42501d9aaeb1839e4648ac7a3554879cfafd913df0cd0d04e2136c0095852c", func := "loop.example/g00231/laws.FnExactBeatIn", spec := "fnExactBeatIn", apart := false }
def FnExactBeatInSaid : Prop := fnExactBeatInRow.holds Try.pinned (OpenSpec.ofChange fnExactBeatInSpec)

/-- ITS FALSE NEIGHBOUR: 'it returns false'. Refute it at one input. -/
def fnExactBeatInWrong : ChangeSpec := { name := "fnExactBeatIn", fn := fun _ => fun
  | [d1, d2] => { results := [.lit (.bool false)], args := [d1, d2] }
  | _ => none }
def FnExactBeatInWrongFalsely : Prop := fnExactBeatInRow.holds Try.pinned (OpenSpec.ofChange fnExactBeatInWrong)

/-- 'laws.FnExactBlankIn': WHATEVER THE INPUT: true; the input reads as it did. -/
def fnExactBlankInSpec : ChangeSpec := { name := "fnExactBlankIn", fn := fun _ => fun
  | [d1, d2] => { results := [.lit (.bool true)], args := [d1, d2] }
  | _ => none }
def fnExactBlankInRow : OpenClaim := { program := "ytdgbcgbpmhkkjaa", sum := "4f42501d9aaeb1839e4648ac7a3554879cfafd913df0cd0d04e2136c0095852c", func := "loop.example/g00231/laws.FnExactBlankIn", spec := "fnExactBlankIn", apart := false }
def FnExactBlankInSaid : Prop := fnExactBlankInRow.holds Try.pinned (OpenSpec.ofChange fnExactBlankInSpec)

/-- ITS FALSE NEIGHBOUR: 'it returns false'. Refute it at one input. -/
def fnExactBlankInWrong : ChangeSpec := { name := "fnExactBlankIn", fn := fun _ => fun
  | [d1, d2] => { results := [.lit (.bool false)], args := [d1, d2] }
  | _ => none }
def FnExactBlankInWrongFalsely : Prop := fnExactBlankInRow.holds Try.pinned (OpenSpec.ofChange fnExactBlankInWrong)

/-- 'laws.FnExactPadsOk': WHATEVER THE INPUT: true; the input reads as it did. -/
def fnExactPadsOkSpec : ChangeSpec := { name := "fnExactPadsOk", fn := fun _ => fun
  | [d] => { results := [.lit (.bool true)], args := [d] }
  | _ => none }
def fnExactPadsOkRow : OpenClaim := { program := "ytdgbcgbpmhkkjaa", sum := "4f42501d9aaeb1839e4648ac7a3554879cfafd913df0cd0d04e2136c0095852c", func := "loop.example/g00231/laws.FnExactPadsOk", spec := "fnExactPadsOk", apart := false }
def FnExactPadsOkSaid : Prop := fnExactPadsOkRow.holds Try.pinned (OpenSpec.ofChange fnExactPadsOkSpec)

/-- ITS FALSE NEIGHBOUR: 'it returns false'. Refute it at one input. -/
def fnExactPadsOkWrong : ChangeSpec := { name := "fnExactPadsOk", fn := fun _ => fun
  | [d] => { results := [.lit (.bool false)], args := [d] }
  | _ => none }
def FnExactPadsOkWrongFalsely : Prop := fnExactPadsOkRow.holds Try.pinned (OpenSpec.ofChange fnExactPadsOkWrong)

/-- 'laws.FnExactPadAt': WHATEVER THE INPUT: true; the input reads as it did. -/
def fnExactPadAtSpec : ChangeSpec := { name := "fnExactPadAt", fn := fun _ => fun
  | [d1, d2] => { results := [.lit (.bool true)], args := [d1, d2] }
  | _ => none }
def fnExactPadAtRow : OpenClaim := { program := "ytdgbcgbpmhkkjaa", sum := "4f42501d9aaeb1839e4648ac7a3554879cfafd913df0cd0d04e2136c0095852c", func := "loop.example/g00231/laws.FnExactPadAt", spec := "fnExactPadAt", apart := false }
def FnExactPadAtSaid : Prop := fnExactPadAtRow.holds Try.pinned (OpenSpec.ofChange fnExactPadAtSpec)

/-- ITS FALSE NEIGHBOUR: 'it returns false'. Refute it at one input. -/
def fnExactPadAtWrong : ChangeSpec := { name := "fnExactPadAt", fn := fun _ => fun
  | [d1, d2] => { results := [.lit (.bool false)], args := [d1, d2] }
  | _ => none }
def FnExactPadAtWrongFalsely : Prop := fnExactPadAtRow.holds Try.pinned (OpenSpec.ofChange fnExactPadAtWrong)

/-- 'laws.FnExactApuRead': WHATEVER THE INPUT: true; the input reads as it did. -/
def fnExactApuReadSpec : ChangeSpec := { name := "fnExactApuRead", fn := fun _ => fun
  | [d1, d2] => { results := [.lit (.bool true)], args := [d1, d2] }
  | _ => none }
def fnExactApuReadRow : OpenClaim := { program := "ytdgbcgbpmhkkjaa", sum := "4f42501d9aaeb1839e4648ac7a3554879cfafd913df0cd0d04e2136c0095852c", func := "loop.example/g00231/laws.FnExactApuRead", spec := "fnExactApuRead", apart := false }
def FnExactApuReadSaid : Prop := fnExactApuReadRow.holds Try.pinned (OpenSpec.ofChange fnExactApuReadSpec)

/-- ITS FALSE NEIGHBOUR: 'it returns false'. Refute it at one input. -/
def fnExactApuReadWrong : ChangeSpec := { name := "fnExactApuRead", fn := fun _ => fun
  | [d1, d2] => { results := [.lit (.bool false)], args := [d1, d2] }
  | _ => none }
def FnExactApuReadWrongFalsely : Prop := fnExactApuReadRow.holds Try.pinned (OpenSpec.ofChange fnExactApuReadWrong)

/-- 'laws.FnExactApuWrite': WHATEVER THE INPUT: true; the input reads as it did. -/
def fnExactApuWriteSpec : ChangeSpec := { name := "fnExactApuWrite", fn := fun _ => fun
  | [d1, d2, d3] => { results := [.lit (.bool true)], args := [d1, d2, d3] }
  | _ => none }
def fnExactApuWriteRow : OpenClaim := { program := "ytdgbcgbpmhkkjaa", sum := "4f42501d9aaeb1839e4648ac7a3554879cfafd913df0cd0d04e2136c0095852c", func := "loop.example/g00231/laws.FnExactApuWrite", spec := "fnExactApuWrite", apart := false }
def FnExactApuWriteSaid : Prop := fnExactApuWriteRow.holds Try.pinned (OpenSpec.ofChange fnExactApuWriteSpec)

/-- ITS FALSE NEIGHBOUR: 'it returns false'. Refute it at one input. -/
def fnExactApuWriteWrong : ChangeSpec := { name := "fnExactApuWrite", fn := fun _ => fun
  | [d1, d2, d3] => { results := [.lit (.bool false)], args := [d1, d2, d3] }
  | _ => none }
def FnExactApuWriteWrongFalsely : Prop := fnExactApuWriteRow.holds Try.pinned (OpenSpec.ofChange fnExactApuWriteWrong)

/-- 'laws.FnExactPadWrite': WHATEVER THE INPUT: true; the input reads as it did. -/
def fnExactPadWriteSpec : ChangeSpec := { name := "fnExactPadWrite", fn := fun _ => fun
  | [d1, d2, d3, d4] => { results := [.lit (.bool true)], args := [d1, d2, d3, d4] }
  | _ => none }
def fnExactPadWriteRow : OpenClaim := { program := "ytdgbcgbpmhkkjaa", sum := "4f42501d9aaeb1839e4648ac7a3554879cfafd913df0cd0d04e2136c0095852c", func := "loop.example/g00231/laws.FnExactPadWrite", spec := "fnExactPadWrite", apart := false }
def FnExactPadWriteSaid : Prop := fnExactPadWriteRow.holds Try.pinned (OpenSpec.ofChange fnExactPadWriteSpec)

/-- ITS FALSE NEIGHBOUR: 'it returns false'. Refute it at one input. -/
def fnExactPadWriteWrong : ChangeSpec := { name := "fnExactPadWrite", fn := fun _ => fun
  | [d1, d2, d3, d4] => { results := [.lit (.bool false)], args := [d1, d2, d3, d4] }
  | _ => none }
def FnExactPadWriteWrongFalsely : Prop := fnExactPadWriteRow.holds Try.pinned (OpenSpec.ofChange fnExactPadWriteWrong)

/-- 'laws.FnExactPadRead': WHATEVER THE INPUT: true; the input reads as it did. -/
def fnExactPadReadSpec : ChangeSpec := { name := "fnExactPadRead", fn := fun _ => fun
  | [d1, d2, d3] => { results := [.lit (.bool true)], args := [d1, d2, d3] }
  | _ => none }
def fnExactPadReadRow : OpenClaim := { program := "ytdgbcgbpmhkkjaa", sum := "4f42501d9aaeb1839e4648ac7a3554879cfafd913df0cd0d04e2136c0095852c", func := "loop.example/g00231/laws.FnExactPadRead", spec := "fnExactPadRead", apart := false }
def FnExactPadReadSaid : Prop := fnExactPadReadRow.holds Try.pinned (OpenSpec.ofChange fnExactPadReadSpec)

/-- ITS FALSE NEIGHBOUR: 'it returns false'. Refute it at one input. -/
def fnExactPadReadWrong : ChangeSpec := { name := "fnExactPadRead", fn := fun _ => fun
  | [d1, d2, d3] => { results := [.lit (.bool false)], args := [d1, d2, d3] }
  | _ => none }
def FnExactPadReadWrongFalsely : Prop := fnExactPadReadRow.holds Try.pinned (OpenSpec.ofChange fnExactPadReadWrong)

/-- 'laws.FnExactApuTick': WHATEVER THE INPUT: true; the input reads as it did. -/
def fnExactApuTickSpec : ChangeSpec := { name := "fnExactApuTick", fn := fun _ => fun
  | [d] => { results := [.lit (.bool true)], args := [d] }
  | _ => none }
def fnExactApuTickRow : OpenClaim := { program := "ytdgbcgbpmhkkjaa", sum := "4f42501d9aaeb1839e4648ac7a3554879cfafd913df0cd0d04e2136c0095852c", func := "loop.example/g00231/laws.FnExactApuTick", spec := "fnExactApuTick", apart := false }
def FnExactApuTickSaid : Prop := fnExactApuTickRow.holds Try.pinned (OpenSpec.ofChange fnExactApuTickSpec)

/-- ITS FALSE NEIGHBOUR: 'it returns false'. Refute it at one input. -/
def fnExactApuTickWrong : ChangeSpec := { name := "fnExactApuTick", fn := fun _ => fun
  | [d] => { results := [.lit (.bool false)], args := [d] }
  | _ => none }
def FnExactApuTickWrongFalsely : Prop := fnExactApuTickRow.holds Try.pinned (OpenSpec.ofChange fnExactApuTickWrong)

/- THE SECOND FORM. 'bulk': how many values and letters a reading holds, each counted each time it is reached (what is shared counts as often as it is met; a slice's spare places count too). A statement '..UptoSaid' is the law's where the arguments, and the package variables that the reading takes, are together of bulk at most 1048576: NARROWER than '..Said'. Prove '..Said' where nothing that the law and all that it calls make is longer than what came in: it says more and counts as full. Else prove '..UptoSaid'. A law counts once. -/
mutual
def uptoBulk {H : Type} : DataW H → Nat
  | .lit (.string bytes) => bytes.length + 1
  | .lit _ => 1
  | .nil => 1
  | .ptr d => uptoBulk d + 1
  | .slice elems spare => uptoBulkAll elems + uptoBulkAll spare + 1
  | .agg parts => uptoBulkAll parts + 1
  | .iface _ d => uptoBulk d + 1
  | .map entries => uptoBulkEntries entries + 1
  | .held _ => 1
def uptoBulkAll {H : Type} : List (DataW H) → Nat
  | [] => 0
  | d :: r => uptoBulk d + uptoBulkAll r
def uptoBulkEntries {H : Type} : List (Lit × DataW H) → Nat
  | [] => 0
  | x :: r => uptoBulkEntry x + uptoBulkEntries r
def uptoBulkEntry {H : Type} : Lit × DataW H → Nat
  | (.string bytes, d) => bytes.length + uptoBulk d + 1
  | (_, d) => uptoBulk d + 1
 end
def uptoSmall : (H : Type) → List (DataW H) → Bool := fun _ ds => decide (uptoBulkAll ds ≤ 1048576)
def OpenSpec.upto (s : _root_.Go.ChangeSpec) : _root_.Go.OpenSpec := { _root_.Go.OpenSpec.ofChange s with cond := some uptoSmall }

/-- 'laws.FnExactFrameOf', WHERE WHAT IT READS IS OF BULK AT MOST 1048576: true; the input reads as it did. -/
def fnExactFrameOfUptoRow : OpenClaim := { program := "ytdgbcgbpmhkkjaa", sum := "4f42501d9aaeb1839e4648ac7a3554879cfafd913df0cd0d04e2136c0095852c", func := "loop.example/g00231/laws.FnExactFrameOf", spec := "fnExactFrameOf", apart := false, narrowed := true }
def FnExactFrameOfUptoSaid : Prop := fnExactFrameOfUptoRow.holds Try.pinned (OpenSpec.upto fnExactFrameOfSpec)

/-- 'laws.FnExactNextBlank', WHERE WHAT IT READS IS OF BULK AT MOST 1048576: true; the input reads as it did. -/
def fnExactNextBlankUptoRow : OpenClaim := { program := "ytdgbcgbpmhkkjaa", sum := "4f42501d9aaeb1839e4648ac7a3554879cfafd913df0cd0d04e2136c0095852c", func := "loop.example/g00231/laws.FnExactNextBlank", spec := "fnExactNextBlank", apart := false, narrowed := true }
def FnExactNextBlankUptoSaid : Prop := fnExactNextBlankUptoRow.holds Try.pinned (OpenSpec.upto fnExactNextBlankSpec)

/-- 'laws.FnExactApuOk', WHERE WHAT IT READS IS OF BULK AT MOST 1048576: true; the input reads as it did. -/
def fnExactApuOkUptoRow : OpenClaim := { program := "ytdgbcgbpmhkkjaa", sum := "4f42501d9aaeb1839e4648ac7a3554879cfafd913df0cd0d04e2136c0095852c", func := "loop.example/g00231/laws.FnExactApuOk", spec := "fnExactApuOk", apart := false, narrowed := true }
def FnExactApuOkUptoSaid : Prop := fnExactApuOkUptoRow.holds Try.pinned (OpenSpec.upto fnExactApuOkSpec)

/-- 'laws.FnExactBeatIn', WHERE WHAT IT READS IS OF BULK AT MOST 1048576: true; the input reads as it did. -/
def fnExactBeatInUptoRow : OpenClaim := { program := "ytdgbcgbpmhkkjaa", sum := "4f42501d9aaeb1839e4648ac7a3554879cfafd913df0cd0d04e2136c0095852c", func := "loop.example/g00231/laws.FnExactBeatIn", spec := "fnExactBeatIn", apart := false, narrowed := true }
def FnExactBeatInUptoSaid : Prop := fnExactBeatInUptoRow.holds Try.pinned (OpenSpec.upto fnExactBeatInSpec)

/-- 'laws.FnExactBlankIn', WHERE WHAT IT READS IS OF BULK AT MOST 1048576: true; the input reads as it did. -/
def fnExactBlankInUptoRow : OpenClaim := { program := "ytdgbcgbpmhkkjaa", sum := "4f42501d9aaeb1839e4648ac7a3554879cfafd913df0cd0d04e2136c0095852c", func := "loop.example/g00231/laws.FnExactBlankIn", spec := "fnExactBlankIn", apart := false, narrowed := true }
def FnExactBlankInUptoSaid : Prop := fnExactBlankInUptoRow.holds Try.pinned (OpenSpec.upto fnExactBlankInSpec)

/-- 'laws.FnExactPadsOk', WHERE WHAT IT READS IS OF BULK AT MOST 1048576: true; the input reads as it did. -/
def fnExactPadsOkUptoRow : OpenClaim := { program := "ytdgbcgbpmhkkjaa", sum := "4f42501d9aaeb1839e4648ac7a3554879cfafd913df0cd0d04e2136c0095852c", func := "loop.example/g00231/laws.FnExactPadsOk", spec := "fnExactPadsOk", apart := false, narrowed := true }
def FnExactPadsOkUptoSaid : Prop := fnExactPadsOkUptoRow.holds Try.pinned (OpenSpec.upto fnExactPadsOkSpec)

/-- 'laws.FnExactPadAt', WHERE WHAT IT READS IS OF BULK AT MOST 1048576: true; the input reads as it did. -/
def fnExactPadAtUptoRow : OpenClaim := { program := "ytdgbcgbpmhkkjaa", sum := "4f42501d9aaeb1839e4648ac7a3554879cfafd913df0cd0d04e2136c0095852c", func := "loop.example/g00231/laws.FnExactPadAt", spec := "fnExactPadAt", apart := false, narrowed := true }
def FnExactPadAtUptoSaid : Prop := fnExactPadAtUptoRow.holds Try.pinned (OpenSpec.upto fnExactPadAtSpec)

/-- 'laws.FnExactApuRead', WHERE WHAT IT READS IS OF BULK AT MOST 1048576: true; the input reads as it did. -/
def fnExactApuReadUptoRow : OpenClaim := { program := "ytdgbcgbpmhkkjaa", sum := "4f42501d9aaeb1839e4648ac7a3554879cfafd913df0cd0d04e2136c0095852c", func := "loop.example/g00231/laws.FnExactApuRead", spec := "fnExactApuRead", apart := false, narrowed := true }
def FnExactApuReadUptoSaid : Prop := fnExactApuReadUptoRow.holds Try.pinned (OpenSpec.upto fnExactApuReadSpec)

/-- 'laws.FnExactApuWrite', WHERE WHAT IT READS IS OF BULK AT MOST 1048576: true; the input reads as it did. -/
def fnExactApuWriteUptoRow : OpenClaim := { program := "ytdgbcgbpmhkkjaa", sum := "4f42501d9aaeb1839e4648ac7a3554879cfafd913df0cd0d04e2136c0095852c", func := "loop.example/g00231/laws.FnExactApuWrite", spec := "fnExactApuWrite", apart := false, narrowed := true }
def FnExactApuWriteUptoSaid : Prop := fnExactApuWriteUptoRow.holds Try.pinned (OpenSpec.upto fnExactApuWriteSpec)

/-- 'laws.FnExactPadWrite', WHERE WHAT IT READS IS OF BULK AT MOST 1048576: true; the input reads as it did. -/
def fnExactPadWriteUptoRow : OpenClaim := { program := "ytdgbcgbpmhkkjaa", sum := "4f42501d9aaeb1839e4648ac7a3554879cfafd913df0cd0d04e2136c0095852c", func := "loop.example/g00231/laws.FnExactPadWrite", spec := "fnExactPadWrite", apart := false, narrowed := true }
def FnExactPadWriteUptoSaid : Prop := fnExactPadWriteUptoRow.holds Try.pinned (OpenSpec.upto fnExactPadWriteSpec)

/-- 'laws.FnExactPadRead', WHERE WHAT IT READS IS OF BULK AT MOST 1048576: true; the input reads as it did. -/
def fnExactPadReadUptoRow : OpenClaim := { program := "ytdgbcgbpmhkkjaa", sum := "4f42501d9aaeb1839e4648ac7a3554879cfafd913df0cd0d04e2136c0095852c", func := "loop.example/g00231/laws.FnExactPadRead", spec := "fnExactPadRead", apart := false, narrowed := true }
def FnExactPadReadUptoSaid : Prop := fnExactPadReadUptoRow.holds Try.pinned (OpenSpec.upto fnExactPadReadSpec)

/-- 'laws.FnExactApuTick', WHERE WHAT IT READS IS OF BULK AT MOST 1048576: true; the input reads as it did. -/
def fnExactApuTickUptoRow : OpenClaim := { program := "ytdgbcgbpmhkkjaa", sum := "4f42501d9aaeb1839e4648ac7a3554879cfafd913df0cd0d04e2136c0095852c", func := "loop.example/g00231/laws.FnExactApuTick", spec := "fnExactApuTick", apart := false, narrowed := true }
def FnExactApuTickUptoSaid : Prop := fnExactApuTickUptoRow.holds Try.pinned (OpenSpec.upto fnExactApuTickSpec)

end Rows
end Go.Proofs.Ytdgbcgbpmhkkjaa
