/- What RingNew tells, spelled as the other makers'. -/
import Derived.Test.YtndnfafplpbbkaaG
namespace Go.Proofs.Ytndnfafplpbbkaa.C
open Go.RowKit Go.Proofs.Ytndnfafplpbbkaa.K Go.Proofs.Ytndnfafplpbbkaa.B
set_option maxRecDepth 20000
set_option linter.unusedVariables false
def RingD.new (c : Int) : RingD := ⟨RingD.newCap c, []⟩
theorem RingD.new_mk (c : Int) : (RingD.new c).mk_ ≤ 100000000 := by simp [RingD.new, RingD.mk_]
theorem ringNew_on {w w' : World} (c : Int) (hb : Below w.heap.size w w') : St w [] w' [ringA (RingD.new c) RingP.zero] := by
  have H := (St.nil w []).callB hb
  have H2 := H.call (ringZero w')
  exact H2
theorem impl_RingNewS (c : Int) (w : World) : Calls Try.prog 21 #[.int .i64 c] w fun e w' => ∃ q', e = .returned (.tuple #[.agg #[.int .i64 (RingD.new c).cap, .slice q'.list.A (RingD.new c).list.length q'.list.c], .bool (RingD.mk c []).ok]) ∧ St w [] w' [ringA (RingD.new c) q'] := by
  refine (impl_RingNew c w).mono fun e w' h => ?_
  exact ⟨RingP.zero, h.1, ringNew_on c h.2⟩
theorem spec_RingNewS (c : Int) (w : World) : Calls Try.prog 20 #[.int .i64 c] w fun e w' => ∃ q', e = .returned (.tuple #[.agg #[.int .i64 (RingD.new c).cap, .slice q'.list.A (RingD.new c).list.length q'.list.c], .bool (RingD.mk c []).ok]) ∧ St w [] w' [ringA (RingD.new c) q'] := by
  refine (spec_RingNew c w).mono fun e w' h => ?_
  exact ⟨RingP.zero, h.1, ringNew_on c h.2⟩
end Go.Proofs.Ytndnfafplpbbkaa.C
