/-
  No cell of these rows narrows 'for every input' (looked for: loops, veiled, ifaces, maps, wideKeys, modest, calm, conditions, laid).
  DERIVED. THE GIVEN ROWS OF THIS SEAT. 5 by the template 'for every input the law returns true; each argument reads behind the call as it read before'; 0 by the template 'total and deterministic' (their statements: YtjgggmcnbdjdjaaGreatTotals.lean).
  GIVEN WITH THE SEED: the statements are not yours to turn. If you find one false, say at which input.
  Laid BY PROGRAM, IN A SANDBOX (cutbox-rows.mjs): the forced cells as the released guide's own fill.sh prints them over the translation 2ecaaa6f7c5a76d7… (all of the seat's roots in one cut). By AI agents, Wed Nov 11 2026. No macro, syntax, notation, axiom, sorry.
-/
import Derived.Test.YtjgggmcnbdjdjaaGreatChecked
import GoSem.Claim
import GoSem.ClaimJoined
import GoSem.ClaimMapViews
import Derived.JoinedTies
import Derived.KernelRfl
namespace Go.Proofs.YtjgggmcnbdjdjaaGreat
/- THE CELL 'sum', in the pinned program and in every row, IS THE sha256 OF THE DUMP (.gsa) THAT YtjgggmcnbdjdjaaGreatProg.lean LOADS. Nothing in Lean hashes anything: it is a label: what it is worth is what the hold of that sum in a sandbox is worth. -/
noncomputable def Tryz.pinned : Pinned := { name := "ytjgggmcnbdjdjaagreat", sum := "2ecaaa6f7c5a76d740cdc6df0f854ab1ab47de3cc87dbea257fc4df31adda1c1", checked := Tryz.checked }
namespace Rows
def none {H : Type} : Left H := { results := [], args := [] }

/-- 'laws.FnExactLockRead': WHATEVER THE INPUT: true; the input reads as it did. -/
def fnExactLockReadSpec : ChangeSpec := { name := "fnExactLockRead", fn := fun _ => fun
  | [d1, d2] => { results := [.lit (.bool true)], args := [d1, d2] }
  | _ => none }
def fnExactLockReadRow : OpenClaim := { program := "ytjgggmcnbdjdjaagreat", sum := "2ecaaa6f7c5a76d740cdc6df0f854ab1ab47de3cc87dbea257fc4df31adda1c1", func := "loop.example/g00231/laws.FnExactLockRead", spec := "fnExactLockRead", apart := false }
def FnExactLockReadSaid : Prop := fnExactLockReadRow.holds Tryz.pinned (OpenSpec.ofChange fnExactLockReadSpec)

/-- ITS FALSE NEIGHBOUR: 'it returns false'. Refute it at one input. -/
def fnExactLockReadWrong : ChangeSpec := { name := "fnExactLockRead", fn := fun _ => fun
  | [d1, d2] => { results := [.lit (.bool false)], args := [d1, d2] }
  | _ => none }
def FnExactLockReadWrongFalsely : Prop := fnExactLockReadRow.holds Tryz.pinned (OpenSpec.ofChange fnExactLockReadWrong)

/-- 'laws.FnExactLockWrite': WHATEVER THE INPUT: true; the input reads as it did. -/
def fnExactLockWriteSpec : ChangeSpec := { name := "fnExactLockWrite", fn := fun _ => fun
  | [d1, d2, d3] => { results := [.lit (.bool true)], args := [d1, d2, d3] }
  | _ => none }
def fnExactLockWriteRow : OpenClaim := { program := "ytjgggmcnbdjdjaagreat", sum := "2ecaaa6f7c5a76d740cdc6df0f854ab1ab47de3cc87dbea257fc4df31adda1c1", func := "loop.example/g00231/laws.FnExactLockWrite", spec := "fnExactLockWrite", apart := false }
def FnExactLockWriteSaid : Prop := fnExactLockWriteRow.holds Tryz.pinned (OpenSpec.ofChange fnExactLockWriteSpec)

/-- ITS FALSE NEIGHBOUR: 'it returns false'. Refute it at one input. -/
def fnExactLockWriteWrong : ChangeSpec := { name := "fnExactLockWrite", fn := fun _ => fun
  | [d1, d2, d3] => { results := [.lit (.bool false)], args := [d1, d2, d3] }
  | _ => none }
def FnExactLockWriteWrongFalsely : Prop := fnExactLockWriteRow.holds Tryz.pinned (OpenSpec.ofChange fnExactLockWriteWrong)

/-- 'laws.FnExactLockStep': WHATEVER THE INPUT: true; the input reads as it did. -/
def fnExactLockStepSpec : ChangeSpec := { name := "fnExactLockStep", fn := fun _ => fun
  | [d] => { results := [.lit (.bool true)], args := [d] }
  | _ => none }
def fnExactLockStepRow : OpenClaim := { program := "ytjgggmcnbdjdjaagreat", sum := "2ecaaa6f7c5a76d740cdc6df0f854ab1ab47de3cc87dbea257fc4df31adda1c1", func := "loop.example/g00231/laws.FnExactLockStep", spec := "fnExactLockStep", apart := false }
def FnExactLockStepSaid : Prop := fnExactLockStepRow.holds Tryz.pinned (OpenSpec.ofChange fnExactLockStepSpec)

/-- ITS FALSE NEIGHBOUR: 'it returns false'. Refute it at one input. -/
def fnExactLockStepWrong : ChangeSpec := { name := "fnExactLockStep", fn := fun _ => fun
  | [d] => { results := [.lit (.bool false)], args := [d] }
  | _ => none }
def FnExactLockStepWrongFalsely : Prop := fnExactLockStepRow.holds Tryz.pinned (OpenSpec.ofChange fnExactLockStepWrong)

/-- 'laws.FnExactSplitNew': WHATEVER THE INPUT: true; the input reads as it did. -/
def fnExactSplitNewSpec : ChangeSpec := { name := "fnExactSplitNew", fn := fun _ => fun
  | [d1, d2, d3] => { results := [.lit (.bool true)], args := [d1, d2, d3] }
  | _ => none }
def fnExactSplitNewRow : OpenClaim := { program := "ytjgggmcnbdjdjaagreat", sum := "2ecaaa6f7c5a76d740cdc6df0f854ab1ab47de3cc87dbea257fc4df31adda1c1", func := "loop.example/g00231/laws.FnExactSplitNew", spec := "fnExactSplitNew", apart := false }
def FnExactSplitNewSaid : Prop := fnExactSplitNewRow.holds Tryz.pinned (OpenSpec.ofChange fnExactSplitNewSpec)

/-- ITS FALSE NEIGHBOUR: 'it returns false'. Refute it at one input. -/
def fnExactSplitNewWrong : ChangeSpec := { name := "fnExactSplitNew", fn := fun _ => fun
  | [d1, d2, d3] => { results := [.lit (.bool false)], args := [d1, d2, d3] }
  | _ => none }
def FnExactSplitNewWrongFalsely : Prop := fnExactSplitNewRow.holds Tryz.pinned (OpenSpec.ofChange fnExactSplitNewWrong)

/-- 'laws.FnExactWait': WHATEVER THE INPUT: true; the input reads as it did. -/
def fnExactWaitSpec : ChangeSpec := { name := "fnExactWait", fn := fun _ => fun
  | [d] => { results := [.lit (.bool true)], args := [d] }
  | _ => none }
def fnExactWaitRow : OpenClaim := { program := "ytjgggmcnbdjdjaagreat", sum := "2ecaaa6f7c5a76d740cdc6df0f854ab1ab47de3cc87dbea257fc4df31adda1c1", func := "loop.example/g00231/laws.FnExactWait", spec := "fnExactWait", apart := false }
def FnExactWaitSaid : Prop := fnExactWaitRow.holds Tryz.pinned (OpenSpec.ofChange fnExactWaitSpec)

/-- ITS FALSE NEIGHBOUR: 'it returns false'. Refute it at one input. -/
def fnExactWaitWrong : ChangeSpec := { name := "fnExactWait", fn := fun _ => fun
  | [d] => { results := [.lit (.bool false)], args := [d] }
  | _ => none }
def FnExactWaitWrongFalsely : Prop := fnExactWaitRow.holds Tryz.pinned (OpenSpec.ofChange fnExactWaitWrong)

/- THE SECOND FORM. 'bulk': how many values and letters a reading holds, each counted each time it is reached (what is shared counts as often as it is met; a slice's spare places count too). A statement '..UptoSaid' is the law's where the arguments, and the package variables that the reading takes, are together of bulk at most 1048576: NARROWER than '..Said'. Prove '..Said' where nothing that the law and all that it calls make is longer than what came in: it says more and counts as full. Else prove '..UptoSaid'. A law counts once. -/
mutual
def uptoBulk {H : Type} : DataW H → Nat
  | .lit (.string bytes) => bytes.length + 1
  | .lit _ => 1
  | .nil => 1
  | .ptr d => uptoBulk d + 1
  | .slice elems spare => uptoBulkAll elems + uptoBulkAll spare + 1
  | .agg parts => uptoBulkAll parts + 1
  | .iface _ d => uptoBulk d + 1
  | .map entries => uptoBulkEntries entries + 1
  | .held _ => 1
def uptoBulkAll {H : Type} : List (DataW H) → Nat
  | [] => 0
  | d :: r => uptoBulk d + uptoBulkAll r
def uptoBulkEntries {H : Type} : List (Lit × DataW H) → Nat
  | [] => 0
  | x :: r => uptoBulkEntry x + uptoBulkEntries r
def uptoBulkEntry {H : Type} : Lit × DataW H → Nat
  | (.string bytes, d) => bytes.length + uptoBulk d + 1
  | (_, d) => uptoBulk d + 1
 end
def uptoSmall : (H : Type) → List (DataW H) → Bool := fun _ ds => decide (uptoBulkAll ds ≤ 1048576)
def OpenSpec.upto (s : _root_.Go.ChangeSpec) : _root_.Go.OpenSpec := { _root_.Go.OpenSpec.ofChange s with cond := some uptoSmall }

/-- 'laws.FnExactLockRead', WHERE WHAT IT READS IS OF BULK AT MOST 1048576: true; the input reads as it did. -/
def fnExactLockReadUptoRow : OpenClaim := { program := "ytjgggmcnbdjdjaagreat", sum := "2ecaaa6f7c5a76d740cdc6df0f854ab1ab47de3cc87dbea257fc4df31adda1c1", func := "loop.example/g00231/laws.FnExactLockRead", spec := "fnExactLockRead", apart := false, narrowed := true }
def FnExactLockReadUptoSaid : Prop := fnExactLockReadUptoRow.holds Tryz.pinned (OpenSpec.upto fnExactLockReadSpec)

/-- 'laws.FnExactLockWrite', WHERE WHAT IT READS IS OF BULK AT MOST 1048576: true; the input reads as it did. -/
def fnExactLockWriteUptoRow : OpenClaim := { program := "ytjgggmcnbdjdjaagreat", sum := "2ecaaa6f7c5a76d740cdc6df0f854ab1ab47de3cc87dbea257fc4df31adda1c1", func := "loop.example/g00231/laws.FnExactLockWrite", spec := "fnExactLockWrite", apart := false, narrowed := true }
def FnExactLockWriteUptoSaid : Prop := fnExactLockWriteUptoRow.holds Tryz.pinned (OpenSpec.upto fnExactLockWriteSpec)

/-- 'laws.FnExactLockStep', WHERE WHAT IT READS IS OF BULK AT MOST 1048576: true; the input reads as it did. -/
def fnExactLockStepUptoRow : OpenClaim := { program := "ytjgggmcnbdjdjaagreat", sum := "2ecaaa6f7c5a76d740cdc6df0f854ab1ab47de3cc87dbea257fc4df31adda1c1", func := "loop.example/g00231/laws.FnExactLockStep", spec := "fnExactLockStep", apart := false, narrowed := true }
def FnExactLockStepUptoSaid : Prop := fnExactLockStepUptoRow.holds Tryz.pinned (OpenSpec.upto fnExactLockStepSpec)

/-- 'laws.FnExactSplitNew', WHERE WHAT IT READS IS OF BULK AT MOST 1048576: true; the input reads as it did. -/
def fnExactSplitNewUptoRow : OpenClaim := { program := "ytjgggmcnbdjdjaagreat", sum := "2ecaaa6f7c5a76d740cdc6df0f854ab1ab47de3cc87dbea257fc4df31adda1c1", func := "loop.example/g00231/laws.FnExactSplitNew", spec := "fnExactSplitNew", apart := false, narrowed := true }
def FnExactSplitNewUptoSaid : Prop := fnExactSplitNewUptoRow.holds Tryz.pinned (OpenSpec.upto fnExactSplitNewSpec)

/-- 'laws.FnExactWait', WHERE WHAT IT READS IS OF BULK AT MOST 1048576: true; the input reads as it did. -/
def fnExactWaitUptoRow : OpenClaim := { program := "ytjgggmcnbdjdjaagreat", sum := "2ecaaa6f7c5a76d740cdc6df0f854ab1ab47de3cc87dbea257fc4df31adda1c1", func := "loop.example/g00231/laws.FnExactWait", spec := "fnExactWait", apart := false, narrowed := true }
def FnExactWaitUptoSaid : Prop := fnExactWaitUptoRow.holds Tryz.pinned (OpenSpec.upto fnExactWaitSpec)

end Rows
end Go.Proofs.YtjgggmcnbdjdjaaGreat
