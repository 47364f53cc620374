/- What a cycle of the sound unit tells. -/
import Derived.Test.YtjgggmcnbdjdjaaA
namespace Go.Proofs.Ytjgggmcnbdjdjaa.B
open Go.RowKit Go.Proofs.Ytjgggmcnbdjdjaa.K
attribute [local go_sem] max2_int min2_int max_two min_two i64_and255 i64_and65535 i64_and1
set_option maxRecDepth 20000
set_option linter.unusedVariables false
set_option linter.unusedSimpArgs false
end Go.Proofs.Ytjgggmcnbdjdjaa.B
