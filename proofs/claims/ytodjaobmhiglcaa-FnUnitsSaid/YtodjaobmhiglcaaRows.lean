/-
  No cell of these rows narrows 'for every input' (looked for: loops, veiled, ifaces, maps, wideKeys, modest, calm, conditions, laid).
  DERIVED. THE GIVEN ROWS OF THIS SEAT. 6 by the template 'for every input the law returns true; each argument reads behind the call as it read before'; 0 by the template 'total and deterministic' (their statements: YtodjaobmhiglcaaTotals.lean).
  GIVEN WITH THE SEED: the statements are not yours to turn. If you find one false, say at which input.
  Laid BY PROGRAM, IN A SANDBOX (cutbox-rows.mjs): the forced cells as the released guide's own fill.sh prints them over the translation 2dcdc188f06ab175… (all of the seat's roots in one cut). By AI agents, Wed Nov 11 2026. No macro, syntax, notation, axiom, sorry.
-/
import Derived.Test.YtodjaobmhiglcaaChecked
import GoSem.Claim
import GoSem.ClaimJoined
import GoSem.ClaimMapViews
import Derived.JoinedTies
import Derived.KernelRfl
namespace Go.Proofs.Ytodjaobmhiglcaa
/- THE CELL 'sum', in the pinned program and in every row, IS THE sha256 OF THE DUMP (.gsa) THAT YtodjaobmhiglcaaProg.lean LOADS. Nothing in Lean hashes anything: it is a label: what it is worth is what the hold of that sum in a sandbox is worth. -/
noncomputable def Try.pinned : Pinned := { name := "ytodjaobmhiglcaa", sum := "2dcdc188f06ab1757b611852c6e8b427c80c674306f3d1b9b7a4ececab212001", checked := Try.checked }
namespace Rows
def none {H : Type} : Left H := { results := [], args := [] }

/-- 'laws.FnUnits': WHATEVER THE INPUT: true; the input reads as it did. -/
def fnUnitsSpec : ChangeSpec := { name := "fnUnits", fn := fun _ => fun
  | [d] => { results := [.lit (.bool true)], args := [d] }
  | _ => none }
def fnUnitsRow : OpenClaim := { program := "ytodjaobmhiglcaa", sum := "2dcdc188f06ab1757b611852c6e8b427c80c674306f3d1b9b7a4ececab212001", func := "loop.example/g00231/laws.FnUnits", spec := "fnUnits", apart := false }
def FnUnitsSaid : Prop := fnUnitsRow.holds Try.pinned (OpenSpec.ofChange fnUnitsSpec)

/-- ITS FALSE NEIGHBOUR: 'it returns false'. Refute it at one input. -/
def fnUnitsWrong : ChangeSpec := { name := "fnUnits", fn := fun _ => fun
  | [d] => { results := [.lit (.bool false)], args := [d] }
  | _ => none }
def FnUnitsWrongFalsely : Prop := fnUnitsRow.holds Try.pinned (OpenSpec.ofChange fnUnitsWrong)

/-- 'laws.FnUnitStep': WHATEVER THE INPUT: true; the input reads as it did. -/
def fnUnitStepSpec : ChangeSpec := { name := "fnUnitStep", fn := fun _ => fun
  | [d] => { results := [.lit (.bool true)], args := [d] }
  | _ => none }
def fnUnitStepRow : OpenClaim := { program := "ytodjaobmhiglcaa", sum := "2dcdc188f06ab1757b611852c6e8b427c80c674306f3d1b9b7a4ececab212001", func := "loop.example/g00231/laws.FnUnitStep", spec := "fnUnitStep", apart := false }
def FnUnitStepSaid : Prop := fnUnitStepRow.holds Try.pinned (OpenSpec.ofChange fnUnitStepSpec)

/-- ITS FALSE NEIGHBOUR: 'it returns false'. Refute it at one input. -/
def fnUnitStepWrong : ChangeSpec := { name := "fnUnitStep", fn := fun _ => fun
  | [d] => { results := [.lit (.bool false)], args := [d] }
  | _ => none }
def FnUnitStepWrongFalsely : Prop := fnUnitStepRow.holds Try.pinned (OpenSpec.ofChange fnUnitStepWrong)

/-- 'laws.FnExactSoundStep': WHATEVER THE INPUT: true; the input reads as it did. -/
def fnExactSoundStepSpec : ChangeSpec := { name := "fnExactSoundStep", fn := fun _ => fun
  | [d1, d2] => { results := [.lit (.bool true)], args := [d1, d2] }
  | _ => none }
def fnExactSoundStepRow : OpenClaim := { program := "ytodjaobmhiglcaa", sum := "2dcdc188f06ab1757b611852c6e8b427c80c674306f3d1b9b7a4ececab212001", func := "loop.example/g00231/laws.FnExactSoundStep", spec := "fnExactSoundStep", apart := false }
def FnExactSoundStepSaid : Prop := fnExactSoundStepRow.holds Try.pinned (OpenSpec.ofChange fnExactSoundStepSpec)

/-- ITS FALSE NEIGHBOUR: 'it returns false'. Refute it at one input. -/
def fnExactSoundStepWrong : ChangeSpec := { name := "fnExactSoundStep", fn := fun _ => fun
  | [d1, d2] => { results := [.lit (.bool false)], args := [d1, d2] }
  | _ => none }
def FnExactSoundStepWrongFalsely : Prop := fnExactSoundStepRow.holds Try.pinned (OpenSpec.ofChange fnExactSoundStepWrong)

/-- 'laws.FnExactSoundCatch': WHATEVER THE INPUT: true; the input reads as it did. -/
def fnExactSoundCatchSpec : ChangeSpec := { name := "fnExactSoundCatch", fn := fun _ => fun
  | [d1, d2] => { results := [.lit (.bool true)], args := [d1, d2] }
  | _ => none }
def fnExactSoundCatchRow : OpenClaim := { program := "ytodjaobmhiglcaa", sum := "2dcdc188f06ab1757b611852c6e8b427c80c674306f3d1b9b7a4ececab212001", func := "loop.example/g00231/laws.FnExactSoundCatch", spec := "fnExactSoundCatch", apart := false }
def FnExactSoundCatchSaid : Prop := fnExactSoundCatchRow.holds Try.pinned (OpenSpec.ofChange fnExactSoundCatchSpec)

/-- ITS FALSE NEIGHBOUR: 'it returns false'. Refute it at one input. -/
def fnExactSoundCatchWrong : ChangeSpec := { name := "fnExactSoundCatch", fn := fun _ => fun
  | [d1, d2] => { results := [.lit (.bool false)], args := [d1, d2] }
  | _ => none }
def FnExactSoundCatchWrongFalsely : Prop := fnExactSoundCatchRow.holds Try.pinned (OpenSpec.ofChange fnExactSoundCatchWrong)

/-- 'laws.FnExactPictureStep': WHATEVER THE INPUT: true; the input reads as it did. -/
def fnExactPictureStepSpec : ChangeSpec := { name := "fnExactPictureStep", fn := fun _ => fun
  | [d1, d2] => { results := [.lit (.bool true)], args := [d1, d2] }
  | _ => none }
def fnExactPictureStepRow : OpenClaim := { program := "ytodjaobmhiglcaa", sum := "2dcdc188f06ab1757b611852c6e8b427c80c674306f3d1b9b7a4ececab212001", func := "loop.example/g00231/laws.FnExactPictureStep", spec := "fnExactPictureStep", apart := false }
def FnExactPictureStepSaid : Prop := fnExactPictureStepRow.holds Try.pinned (OpenSpec.ofChange fnExactPictureStepSpec)

/-- ITS FALSE NEIGHBOUR: 'it returns false'. Refute it at one input. -/
def fnExactPictureStepWrong : ChangeSpec := { name := "fnExactPictureStep", fn := fun _ => fun
  | [d1, d2] => { results := [.lit (.bool false)], args := [d1, d2] }
  | _ => none }
def FnExactPictureStepWrongFalsely : Prop := fnExactPictureStepRow.holds Try.pinned (OpenSpec.ofChange fnExactPictureStepWrong)

/-- 'laws.FnExactPictureCatch': WHATEVER THE INPUT: true; the input reads as it did. -/
def fnExactPictureCatchSpec : ChangeSpec := { name := "fnExactPictureCatch", fn := fun _ => fun
  | [d1, d2] => { results := [.lit (.bool true)], args := [d1, d2] }
  | _ => none }
def fnExactPictureCatchRow : OpenClaim := { program := "ytodjaobmhiglcaa", sum := "2dcdc188f06ab1757b611852c6e8b427c80c674306f3d1b9b7a4ececab212001", func := "loop.example/g00231/laws.FnExactPictureCatch", spec := "fnExactPictureCatch", apart := false }
def FnExactPictureCatchSaid : Prop := fnExactPictureCatchRow.holds Try.pinned (OpenSpec.ofChange fnExactPictureCatchSpec)

/-- ITS FALSE NEIGHBOUR: 'it returns false'. Refute it at one input. -/
def fnExactPictureCatchWrong : ChangeSpec := { name := "fnExactPictureCatch", fn := fun _ => fun
  | [d1, d2] => { results := [.lit (.bool false)], args := [d1, d2] }
  | _ => none }
def FnExactPictureCatchWrongFalsely : Prop := fnExactPictureCatchRow.holds Try.pinned (OpenSpec.ofChange fnExactPictureCatchWrong)

/- THE SECOND FORM. 'bulk': how many values and letters a reading holds, each counted each time it is reached (what is shared counts as often as it is met; a slice's spare places count too). A statement '..UptoSaid' is the law's where the arguments, and the package variables that the reading takes, are together of bulk at most 1048576: NARROWER than '..Said'. Prove '..Said' where nothing that the law and all that it calls make is longer than what came in: it says more and counts as full. Else prove '..UptoSaid'. A law counts once. -/
mutual
def uptoBulk {H : Type} : DataW H → Nat
  | .lit (.string bytes) => bytes.length + 1
  | .lit _ => 1
  | .nil => 1
  | .ptr d => uptoBulk d + 1
  | .slice elems spare => uptoBulkAll elems + uptoBulkAll spare + 1
  | .agg parts => uptoBulkAll parts + 1
  | .iface _ d => uptoBulk d + 1
  | .map entries => uptoBulkEntries entries + 1
  | .held _ => 1
def uptoBulkAll {H : Type} : List (DataW H) → Nat
  | [] => 0
  | d :: r => uptoBulk d + uptoBulkAll r
def uptoBulkEntries {H : Type} : List (Lit × DataW H) → Nat
  | [] => 0
  | x :: r => uptoBulkEntry x + uptoBulkEntries r
def uptoBulkEntry {H : Type} : Lit × DataW H → Nat
  | (.string bytes, d) => bytes.length + uptoBulk d + 1
  | (_, d) => uptoBulk d + 1
 end
def uptoSmall : (H : Type) → List (DataW H) → Bool := fun _ ds => decide (uptoBulkAll ds ≤ 1048576)
def OpenSpec.upto (s : _root_.Go.ChangeSpec) : _root_.Go.OpenSpec := { _root_.Go.OpenSpec.ofChange s with cond := some uptoSmall }

/-- 'laws.FnUnits', WHERE WHAT IT READS IS OF BULK AT MOST 1048576: true; the input reads as it did. -/
def fnUnitsUptoRow : OpenClaim := { program := "ytodjaobmhiglcaa", sum := "2dcdc188f06ab1757b611852c6e8b427c80c674306f3d1b9b7a4ececab212001", func := "loop.example/g00231/laws.FnUnits", spec := "fnUnits", apart := false, narrowed := true }
def FnUnitsUptoSaid : Prop := fnUnitsUptoRow.holds Try.pinned (OpenSpec.upto fnUnitsSpec)

/-- 'laws.FnUnitStep', WHERE WHAT IT READS IS OF BULK AT MOST 1048576: true; the input reads as it did. -/
def fnUnitStepUptoRow : OpenClaim := { program := "ytodjaobmhiglcaa", sum := "2dcdc188f06ab1757b611852c6e8b427c80c674306f3d1b9b7a4ececab212001", func := "loop.example/g00231/laws.FnUnitStep", spec := "fnUnitStep", apart := false, narrowed := true }
def FnUnitStepUptoSaid : Prop := fnUnitStepUptoRow.holds Try.pinned (OpenSpec.upto fnUnitStepSpec)

/-- 'laws.FnExactSoundStep', WHERE WHAT IT READS IS OF BULK AT MOST 1048576: true; the input reads as it did. -/
def fnExactSoundStepUptoRow : OpenClaim := { program := "ytodjaobmhiglcaa", sum := "2dcdc188f06ab1757b611852c6e8b427c80c674306f3d1b9b7a4ececab212001", func := "loop.example/g00231/laws.FnExactSoundStep", spec := "fnExactSoundStep", apart := false, narrowed := true }
def FnExactSoundStepUptoSaid : Prop := fnExactSoundStepUptoRow.holds Try.pinned (OpenSpec.upto fnExactSoundStepSpec)

/-- 'laws.FnExactSoundCatch', WHERE WHAT IT READS IS OF BULK AT MOST 1048576: true; the input reads as it did. -/
def fnExactSoundCatchUptoRow : OpenClaim := { program := "ytodjaobmhiglcaa", sum := "2dcdc188f06ab1757b611852c6e8b427c80c674306f3d1b9b7a4ececab212001", func := "loop.example/g00231/laws.FnExactSoundCatch", spec := "fnExactSoundCatch", apart := false, narrowed := true }
def FnExactSoundCatchUptoSaid : Prop := fnExactSoundCatchUptoRow.holds Try.pinned (OpenSpec.upto fnExactSoundCatchSpec)

/-- 'laws.FnExactPictureStep', WHERE WHAT IT READS IS OF BULK AT MOST 1048576: true; the input reads as it did. -/
def fnExactPictureStepUptoRow : OpenClaim := { program := "ytodjaobmhiglcaa", sum := "2dcdc188f06ab1757b611852c6e8b427c80c674306f3d1b9b7a4ececab212001", func := "loop.example/g00231/laws.FnExactPictureStep", spec := "fnExactPictureStep", apart := false, narrowed := true }
def FnExactPictureStepUptoSaid : Prop := fnExactPictureStepUptoRow.holds Try.pinned (OpenSpec.upto fnExactPictureStepSpec)

/-- 'laws.FnExactPictureCatch', WHERE WHAT IT READS IS OF BULK AT MOST 1048576: true; the input reads as it did. -/
def fnExactPictureCatchUptoRow : OpenClaim := { program := "ytodjaobmhiglcaa", sum := "2dcdc188f06ab1757b611852c6e8b427c80c674306f3d1b9b7a4ececab212001", func := "loop.example/g00231/laws.FnExactPictureCatch", spec := "fnExactPictureCatch", apart := false, narrowed := true }
def FnExactPictureCatchUptoSaid : Prop := fnExactPictureCatchUptoRow.holds Try.pinned (OpenSpec.upto fnExactPictureCatchSpec)

end Rows
end Go.Proofs.Ytodjaobmhiglcaa
