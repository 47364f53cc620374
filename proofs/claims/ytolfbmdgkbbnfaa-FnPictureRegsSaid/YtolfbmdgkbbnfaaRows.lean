/-
  No cell of these rows narrows 'for every input' (looked for: loops, veiled, ifaces, maps, wideKeys, modest, calm, conditions, laid).
  DERIVED. THE GIVEN ROWS OF THIS SEAT. 11 by the template 'for every input the law returns true; each argument reads behind the call as it read before'; 0 by the template 'total and deterministic' (their statements: YtolfbmdgkbbnfaaTotals.lean).
  GIVEN WITH THE SEED: the statements are not yours to turn. If you find one false, say at which input.
  Laid BY PROGRAM, IN A SANDBOX (cutbox-rows.mjs): the forced cells as the released guide's own fill.sh prints them over the translation 66d2c7b1cb2869f4… (all of the seat's roots in one cut). By AI agents, Wed Nov 11 2026. No macro, syntax, notation, axiom, sorry.
-/
import Derived.Test.YtolfbmdgkbbnfaaChecked
import GoSem.Claim
import GoSem.ClaimJoined
import GoSem.ClaimMapViews
import Derived.JoinedTies
import Derived.KernelRfl
namespace Go.Proofs.Ytolfbmdgkbbnfaa
/- THE CELL 'sum', in the pinned program and in every row, IS THE sha256 OF THE DUMP (.gsa) THAT YtolfbmdgkbbnfaaProg.lean LOADS. Nothing in Lean hashes anything: it is a label: what it is worth is what the hold of that sum in a sandbox is worth. -/
noncomputable def Try.pinned : Pinned := { name := "ytolfbmdgkbbnfaa", sum := "66d2c7b1cb2869f4457715ff024393e721a045893aff6bdd0fe1080023661430", checked := Try.checked }
namespace Rows
def none {H : Type} : Left H := { results := [], args := [] }

/-- 'laws.FnKnows': WHATEVER THE INPUT: true; the input reads as it did. -/
def fnKnowsSpec : ChangeSpec := { name := "fnKnows", fn := fun _ => fun
  | [d] => { results := [.lit (.bool true)], args := [d] }
  | _ => none }
def fnKnowsRow : OpenClaim := { program := "ytolfbmdgkbbnfaa", sum := "66d2c7b1cb2869f4457715ff024393e721a045893aff6bdd0fe1080023661430", func := "loop.example/g00231/laws.FnKnows", spec := "fnKnows", apart := false }
def FnKnowsSaid : Prop := fnKnowsRow.holds Try.pinned (OpenSpec.ofChange fnKnowsSpec)

/-- ITS FALSE NEIGHBOUR: 'it returns false'. Refute it at one input. -/
def fnKnowsWrong : ChangeSpec := { name := "fnKnows", fn := fun _ => fun
  | [d] => { results := [.lit (.bool false)], args := [d] }
  | _ => none }
def FnKnowsWrongFalsely : Prop := fnKnowsRow.holds Try.pinned (OpenSpec.ofChange fnKnowsWrong)

/-- 'laws.FnBlank': WHATEVER THE INPUT: true; the input reads as it did. -/
def fnBlankSpec : ChangeSpec := { name := "fnBlank", fn := fun _ => fun
  | [d] => { results := [.lit (.bool true)], args := [d] }
  | _ => none }
def fnBlankRow : OpenClaim := { program := "ytolfbmdgkbbnfaa", sum := "66d2c7b1cb2869f4457715ff024393e721a045893aff6bdd0fe1080023661430", func := "loop.example/g00231/laws.FnBlank", spec := "fnBlank", apart := false }
def FnBlankSaid : Prop := fnBlankRow.holds Try.pinned (OpenSpec.ofChange fnBlankSpec)

/-- ITS FALSE NEIGHBOUR: 'it returns false'. Refute it at one input. -/
def fnBlankWrong : ChangeSpec := { name := "fnBlank", fn := fun _ => fun
  | [d] => { results := [.lit (.bool false)], args := [d] }
  | _ => none }
def FnBlankWrongFalsely : Prop := fnBlankRow.holds Try.pinned (OpenSpec.ofChange fnBlankWrong)

/-- 'laws.FnTaken': WHATEVER THE INPUT: true; the input reads as it did. -/
def fnTakenSpec : ChangeSpec := { name := "fnTaken", fn := fun _ => fun
  | [d] => { results := [.lit (.bool true)], args := [d] }
  | _ => none }
def fnTakenRow : OpenClaim := { program := "ytolfbmdgkbbnfaa", sum := "66d2c7b1cb2869f4457715ff024393e721a045893aff6bdd0fe1080023661430", func := "loop.example/g00231/laws.FnTaken", spec := "fnTaken", apart := false }
def FnTakenSaid : Prop := fnTakenRow.holds Try.pinned (OpenSpec.ofChange fnTakenSpec)

/-- ITS FALSE NEIGHBOUR: 'it returns false'. Refute it at one input. -/
def fnTakenWrong : ChangeSpec := { name := "fnTaken", fn := fun _ => fun
  | [d] => { results := [.lit (.bool false)], args := [d] }
  | _ => none }
def FnTakenWrongFalsely : Prop := fnTakenRow.holds Try.pinned (OpenSpec.ofChange fnTakenWrong)

/-- 'laws.FnRing': WHATEVER THE INPUT: true; the input reads as it did. -/
def fnRingSpec : ChangeSpec := { name := "fnRing", fn := fun _ => fun
  | [d] => { results := [.lit (.bool true)], args := [d] }
  | _ => none }
def fnRingRow : OpenClaim := { program := "ytolfbmdgkbbnfaa", sum := "66d2c7b1cb2869f4457715ff024393e721a045893aff6bdd0fe1080023661430", func := "loop.example/g00231/laws.FnRing", spec := "fnRing", apart := false }
def FnRingSaid : Prop := fnRingRow.holds Try.pinned (OpenSpec.ofChange fnRingSpec)

/-- ITS FALSE NEIGHBOUR: 'it returns false'. Refute it at one input. -/
def fnRingWrong : ChangeSpec := { name := "fnRing", fn := fun _ => fun
  | [d] => { results := [.lit (.bool false)], args := [d] }
  | _ => none }
def FnRingWrongFalsely : Prop := fnRingRow.holds Try.pinned (OpenSpec.ofChange fnRingWrong)

/-- 'laws.FnPad': WHATEVER THE INPUT: true; the input reads as it did. -/
def fnPadSpec : ChangeSpec := { name := "fnPad", fn := fun _ => fun
  | [d] => { results := [.lit (.bool true)], args := [d] }
  | _ => none }
def fnPadRow : OpenClaim := { program := "ytolfbmdgkbbnfaa", sum := "66d2c7b1cb2869f4457715ff024393e721a045893aff6bdd0fe1080023661430", func := "loop.example/g00231/laws.FnPad", spec := "fnPad", apart := false }
def FnPadSaid : Prop := fnPadRow.holds Try.pinned (OpenSpec.ofChange fnPadSpec)

/-- ITS FALSE NEIGHBOUR: 'it returns false'. Refute it at one input. -/
def fnPadWrong : ChangeSpec := { name := "fnPad", fn := fun _ => fun
  | [d] => { results := [.lit (.bool false)], args := [d] }
  | _ => none }
def FnPadWrongFalsely : Prop := fnPadRow.holds Try.pinned (OpenSpec.ofChange fnPadWrong)

/-- 'laws.FnHeld': WHATEVER THE INPUT: true; the input reads as it did. -/
def fnHeldSpec : ChangeSpec := { name := "fnHeld", fn := fun _ => fun
  | [d] => { results := [.lit (.bool true)], args := [d] }
  | _ => none }
def fnHeldRow : OpenClaim := { program := "ytolfbmdgkbbnfaa", sum := "66d2c7b1cb2869f4457715ff024393e721a045893aff6bdd0fe1080023661430", func := "loop.example/g00231/laws.FnHeld", spec := "fnHeld", apart := false }
def FnHeldSaid : Prop := fnHeldRow.holds Try.pinned (OpenSpec.ofChange fnHeldSpec)

/-- ITS FALSE NEIGHBOUR: 'it returns false'. Refute it at one input. -/
def fnHeldWrong : ChangeSpec := { name := "fnHeld", fn := fun _ => fun
  | [d] => { results := [.lit (.bool false)], args := [d] }
  | _ => none }
def FnHeldWrongFalsely : Prop := fnHeldRow.holds Try.pinned (OpenSpec.ofChange fnHeldWrong)

/-- 'laws.FnAsks': WHATEVER THE INPUT: true; the input reads as it did. -/
def fnAsksSpec : ChangeSpec := { name := "fnAsks", fn := fun _ => fun
  | [d] => { results := [.lit (.bool true)], args := [d] }
  | _ => none }
def fnAsksRow : OpenClaim := { program := "ytolfbmdgkbbnfaa", sum := "66d2c7b1cb2869f4457715ff024393e721a045893aff6bdd0fe1080023661430", func := "loop.example/g00231/laws.FnAsks", spec := "fnAsks", apart := false }
def FnAsksSaid : Prop := fnAsksRow.holds Try.pinned (OpenSpec.ofChange fnAsksSpec)

/-- ITS FALSE NEIGHBOUR: 'it returns false'. Refute it at one input. -/
def fnAsksWrong : ChangeSpec := { name := "fnAsks", fn := fun _ => fun
  | [d] => { results := [.lit (.bool false)], args := [d] }
  | _ => none }
def FnAsksWrongFalsely : Prop := fnAsksRow.holds Try.pinned (OpenSpec.ofChange fnAsksWrong)

/-- 'laws.FnSoundRegs': WHATEVER THE INPUT: true; the input reads as it did. -/
def fnSoundRegsSpec : ChangeSpec := { name := "fnSoundRegs", fn := fun _ => fun
  | [d] => { results := [.lit (.bool true)], args := [d] }
  | _ => none }
def fnSoundRegsRow : OpenClaim := { program := "ytolfbmdgkbbnfaa", sum := "66d2c7b1cb2869f4457715ff024393e721a045893aff6bdd0fe1080023661430", func := "loop.example/g00231/laws.FnSoundRegs", spec := "fnSoundRegs", apart := false }
def FnSoundRegsSaid : Prop := fnSoundRegsRow.holds Try.pinned (OpenSpec.ofChange fnSoundRegsSpec)

/-- ITS FALSE NEIGHBOUR: 'it returns false'. Refute it at one input. -/
def fnSoundRegsWrong : ChangeSpec := { name := "fnSoundRegs", fn := fun _ => fun
  | [d] => { results := [.lit (.bool false)], args := [d] }
  | _ => none }
def FnSoundRegsWrongFalsely : Prop := fnSoundRegsRow.holds Try.pinned (OpenSpec.ofChange fnSoundRegsWrong)

/-- 'laws.FnPicture': WHATEVER THE INPUT: true; the input reads as it did. -/
def fnPictureSpec : ChangeSpec := { name := "fnPicture", fn := fun _ => fun
  | [d] => { results := [.lit (.bool true)], args := [d] }
  | _ => none }
def fnPictureRow : OpenClaim := { program := "ytolfbmdgkbbnfaa", sum := "66d2c7b1cb2869f4457715ff024393e721a045893aff6bdd0fe1080023661430", func := "loop.example/g00231/laws.FnPicture", spec := "fnPicture", apart := false }
def FnPictureSaid : Prop := fnPictureRow.holds Try.pinned (OpenSpec.ofChange fnPictureSpec)

/-- ITS FALSE NEIGHBOUR: 'it returns false'. Refute it at one input. -/
def fnPictureWrong : ChangeSpec := { name := "fnPicture", fn := fun _ => fun
  | [d] => { results := [.lit (.bool false)], args := [d] }
  | _ => none }
def FnPictureWrongFalsely : Prop := fnPictureRow.holds Try.pinned (OpenSpec.ofChange fnPictureWrong)

/-- 'laws.FnDots': WHATEVER THE INPUT: true; the input reads as it did. -/
def fnDotsSpec : ChangeSpec := { name := "fnDots", fn := fun _ => fun
  | [d] => { results := [.lit (.bool true)], args := [d] }
  | _ => none }
def fnDotsRow : OpenClaim := { program := "ytolfbmdgkbbnfaa", sum := "66d2c7b1cb2869f4457715ff024393e721a045893aff6bdd0fe1080023661430", func := "loop.example/g00231/laws.FnDots", spec := "fnDots", apart := false }
def FnDotsSaid : Prop := fnDotsRow.holds Try.pinned (OpenSpec.ofChange fnDotsSpec)

/-- ITS FALSE NEIGHBOUR: 'it returns false'. Refute it at one input. -/
def fnDotsWrong : ChangeSpec := { name := "fnDots", fn := fun _ => fun
  | [d] => { results := [.lit (.bool false)], args := [d] }
  | _ => none }
def FnDotsWrongFalsely : Prop := fnDotsRow.holds Try.pinned (OpenSpec.ofChange fnDotsWrong)

/-- 'laws.FnPictureRegs': WHATEVER THE INPUT: true; the input reads as it did. -/
def fnPictureRegsSpec : ChangeSpec := { name := "fnPictureRegs", fn := fun _ => fun
  | [d] => { results := [.lit (.bool true)], args := [d] }
  | _ => none }
def fnPictureRegsRow : OpenClaim := { program := "ytolfbmdgkbbnfaa", sum := "66d2c7b1cb2869f4457715ff024393e721a045893aff6bdd0fe1080023661430", func := "loop.example/g00231/laws.FnPictureRegs", spec := "fnPictureRegs", apart := false }
def FnPictureRegsSaid : Prop := fnPictureRegsRow.holds Try.pinned (OpenSpec.ofChange fnPictureRegsSpec)

/-- ITS FALSE NEIGHBOUR: 'it returns false'. Refute it at one input. -/
def fnPictureRegsWrong : ChangeSpec := { name := "fnPictureRegs", fn := fun _ => fun
  | [d] => { results := [.lit (.bool false)], args := [d] }
  | _ => none }
def FnPictureRegsWrongFalsely : Prop := fnPictureRegsRow.holds Try.pinned (OpenSpec.ofChange fnPictureRegsWrong)

/- THE SECOND FORM. 'bulk': how many values and letters a reading holds, each counted each time it is reached (what is shared counts as often as it is met; a slice's spare places count too). A statement '..UptoSaid' is the law's where the arguments, and the package variables that the reading takes, are together of bulk at most 1048576: NARROWER than '..Said'. Prove '..Said' where nothing that the law and all that it calls make is longer than what came in: it says more and counts as full. Else prove '..UptoSaid'. A law counts once. -/
mutual
def uptoBulk {H : Type} : DataW H → Nat
  | .lit (.string bytes) => bytes.length + 1
  | .lit _ => 1
  | .nil => 1
  | .ptr d => uptoBulk d + 1
  | .slice elems spare => uptoBulkAll elems + uptoBulkAll spare + 1
  | .agg parts => uptoBulkAll parts + 1
  | .iface _ d => uptoBulk d + 1
  | .map entries => uptoBulkEntries entries + 1
  | .held _ => 1
def uptoBulkAll {H : Type} : List (DataW H) → Nat
  | [] => 0
  | d :: r => uptoBulk d + uptoBulkAll r
def uptoBulkEntries {H : Type} : List (Lit × DataW H) → Nat
  | [] => 0
  | x :: r => uptoBulkEntry x + uptoBulkEntries r
def uptoBulkEntry {H : Type} : Lit × DataW H → Nat
  | (.string bytes, d) => bytes.length + uptoBulk d + 1
  | (_, d) => uptoBulk d + 1
 end
def uptoSmall : (H : Type) → List (DataW H) → Bool := fun _ ds => decide (uptoBulkAll ds ≤ 1048576)
def OpenSpec.upto (s : _root_.Go.ChangeSpec) : _root_.Go.OpenSpec := { _root_.Go.OpenSpec.ofChange s with cond := some uptoSmall }

/-- 'laws.FnKnows', WHERE WHAT IT READS IS OF BULK AT MOST 1048576: true; the input reads as it did. -/
def fnKnowsUptoRow : OpenClaim := { program := "ytolfbmdgkbbnfaa", sum := "66d2c7b1cb2869f4457715ff024393e721a045893aff6bdd0fe1080023661430", func := "loop.example/g00231/laws.FnKnows", spec := "fnKnows", apart := false, narrowed := true }
def FnKnowsUptoSaid : Prop := fnKnowsUptoRow.holds Try.pinned (OpenSpec.upto fnKnowsSpec)

/-- 'laws.FnBlank', WHERE WHAT IT READS IS OF BULK AT MOST 1048576: true; the input reads as it did. -/
def fnBlankUptoRow : OpenClaim := { program := "ytolfbmdgkbbnfaa", sum := "66d2c7b1cb2869f4457715ff024393e721a045893aff6bdd0fe1080023661430", func := "loop.example/g00231/laws.FnBlank", spec := "fnBlank", apart := false, narrowed := true }
def FnBlankUptoSaid : Prop := fnBlankUptoRow.holds Try.pinned (OpenSpec.upto fnBlankSpec)

/-- 'laws.FnTaken', WHERE WHAT IT READS IS OF BULK AT MOST 1048576: true; the input reads as it did. -/
def fnTakenUptoRow : OpenClaim := { program := "ytolfbmdgkbbnfaa", sum := "66d2c7b1cb2869f4457715ff024393e721a045893aff6bdd0fe1080023661430", func := "loop.example/g00231/laws.FnTaken", spec := "fnTaken", apart := false, narrowed := true }
def FnTakenUptoSaid : Prop := fnTakenUptoRow.holds Try.pinned (OpenSpec.upto fnTakenSpec)

/-- 'laws.FnRing', WHERE WHAT IT READS IS OF BULK AT MOST 1048576: true; the input reads as it did. -/
def fnRingUptoRow : OpenClaim := { program := "ytolfbmdgkbbnfaa", sum := "66d2c7b1cb2869f4457715ff024393e721a045893aff6bdd0fe1080023661430", func := "loop.example/g00231/laws.FnRing", spec := "fnRing", apart := false, narrowed := true }
def FnRingUptoSaid : Prop := fnRingUptoRow.holds Try.pinned (OpenSpec.upto fnRingSpec)

/-- 'laws.FnPad', WHERE WHAT IT READS IS OF BULK AT MOST 1048576: true; the input reads as it did. -/
def fnPadUptoRow : OpenClaim := { program := "ytolfbmdgkbbnfaa", sum := "66d2c7b1cb2869f4457715ff024393e721a045893aff6bdd0fe1080023661430", func := "loop.example/g00231/laws.FnPad", spec := "fnPad", apart := false, narrowed := true }
def FnPadUptoSaid : Prop := fnPadUptoRow.holds Try.pinned (OpenSpec.upto fnPadSpec)

/-- 'laws.FnHeld', WHERE WHAT IT READS IS OF BULK AT MOST 1048576: true; the input reads as it did. -/
def fnHeldUptoRow : OpenClaim := { program := "ytolfbmdgkbbnfaa", sum := "66d2c7b1cb2869f4457715ff024393e721a045893aff6bdd0fe1080023661430", func := "loop.example/g00231/laws.FnHeld", spec := "fnHeld", apart := false, narrowed := true }
def FnHeldUptoSaid : Prop := fnHeldUptoRow.holds Try.pinned (OpenSpec.upto fnHeldSpec)

/-- 'laws.FnAsks', WHERE WHAT IT READS IS OF BULK AT MOST 1048576: true; the input reads as it did. -/
def fnAsksUptoRow : OpenClaim := { program := "ytolfbmdgkbbnfaa", sum := "66d2c7b1cb2869f4457715ff024393e721a045893aff6bdd0fe1080023661430", func := "loop.example/g00231/laws.FnAsks", spec := "fnAsks", apart := false, narrowed := true }
def FnAsksUptoSaid : Prop := fnAsksUptoRow.holds Try.pinned (OpenSpec.upto fnAsksSpec)

/-- 'laws.FnSoundRegs', WHERE WHAT IT READS IS OF BULK AT MOST 1048576: true; the input reads as it did. -/
def fnSoundRegsUptoRow : OpenClaim := { program := "ytolfbmdgkbbnfaa", sum := "66d2c7b1cb2869f4457715ff024393e721a045893aff6bdd0fe1080023661430", func := "loop.example/g00231/laws.FnSoundRegs", spec := "fnSoundRegs", apart := false, narrowed := true }
def FnSoundRegsUptoSaid : Prop := fnSoundRegsUptoRow.holds Try.pinned (OpenSpec.upto fnSoundRegsSpec)

/-- 'laws.FnPicture', WHERE WHAT IT READS IS OF BULK AT MOST 1048576: true; the input reads as it did. -/
def fnPictureUptoRow : OpenClaim := { program := "ytolfbmdgkbbnfaa", sum := "66d2c7b1cb2869f4457715ff024393e721a045893aff6bdd0fe1080023661430", func := "loop.example/g00231/laws.FnPicture", spec := "fnPicture", apart := false, narrowed := true }
def FnPictureUptoSaid : Prop := fnPictureUptoRow.holds Try.pinned (OpenSpec.upto fnPictureSpec)

/-- 'laws.FnDots', WHERE WHAT IT READS IS OF BULK AT MOST 1048576: true; the input reads as it did. -/
def fnDotsUptoRow : OpenClaim := { program := "ytolfbmdgkbbnfaa", sum := "66d2c7b1cb2869f4457715ff024393e721a045893aff6bdd0fe1080023661430", func := "loop.example/g00231/laws.FnDots", spec := "fnDots", apart := false, narrowed := true }
def FnDotsUptoSaid : Prop := fnDotsUptoRow.holds Try.pinned (OpenSpec.upto fnDotsSpec)

/-- 'laws.FnPictureRegs', WHERE WHAT IT READS IS OF BULK AT MOST 1048576: true; the input reads as it did. -/
def fnPictureRegsUptoRow : OpenClaim := { program := "ytolfbmdgkbbnfaa", sum := "66d2c7b1cb2869f4457715ff024393e721a045893aff6bdd0fe1080023661430", func := "loop.example/g00231/laws.FnPictureRegs", spec := "fnPictureRegs", apart := false, narrowed := true }
def FnPictureRegsUptoSaid : Prop := fnPictureRegsUptoRow.holds Try.pinned (OpenSpec.upto fnPictureRegsSpec)

end Rows
end Go.Proofs.Ytolfbmdgkbbnfaa
