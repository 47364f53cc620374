/- What is drawn of times, stretches of time, pads. -/
import Derived.Test.YtodjaobmhiglcaaDR
namespace Go.Proofs.Ytodjaobmhiglcaa.C
open Go.RowKit Go.Proofs.Ytodjaobmhiglcaa.K Go.Proofs.Ytodjaobmhiglcaa.B
attribute [local go_sem] max2_int min2_int max_two min_two i64_and255 i64_and65535 i64_and1
set_option maxRecDepth 20000
set_option linter.unusedVariables false
set_option linter.unusedSimpArgs false
theorem laws_big (A : Option Addr) (n c : Nat) (w : World) (hn : n ≤ 9223372036854775807) : Calls Try.prog 9 #[.slice A n c] w fun e w' => e = .returned (.bool (decide (1048576 < n))) ∧ w = w' := by
  go_enter Try.func9, Try.ntmps9
  go_wp2
  go_ret
  exact ⟨ret_b (decide_eq_decide.2 (by omega)), rfl⟩
end Go.Proofs.Ytodjaobmhiglcaa.C
