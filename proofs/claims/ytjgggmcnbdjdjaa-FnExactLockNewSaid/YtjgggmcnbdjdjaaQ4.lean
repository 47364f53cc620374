/- What PpuTick tells. -/
import Derived.Test.YtjgggmcnbdjdjaaQ3
namespace Go.Proofs.Ytjgggmcnbdjdjaa.C
open Go.RowKit Go.Proofs.Ytjgggmcnbdjdjaa.K Go.Proofs.Ytjgggmcnbdjdjaa.B
attribute [local go_sem] max2_int min2_int max_two min_two i64_and255 i64_and65535 i64_and1
set_option maxRecDepth 20000
set_option linter.unusedVariables false
set_option linter.unusedSimpArgs false
def PpuD.zero : PpuD := ⟨0, 0, 0, 0, 0, false, [], []⟩
def PpuD.tick (x : PpuD) : PpuD := if x.ok = true then (if (x.t == 20000) = true then x else x.tk) else PpuD.zero
def PpuD.tickF (x : PpuD) : List Int := if x.ok = true then (if (x.t == 20000) = true then [] else x.frame) else []
def PpuD.tickA (x : PpuD) : Bool := if x.ok = true then (if (x.t == 20000) = true then false else x.asks) else false
theorem PpuD.tk_table (x : PpuD) : x.tk.table = x.table := by unfold PpuD.tk; (repeat' split) <;> rfl
theorem PpuD.tk_dots (x : PpuD) : x.tk.dots.length ≤ x.dots.length + 1 := by unfold PpuD.tk; (repeat' split) <;> simp
theorem PpuD.tick_mk {x : PpuD} (h : PpuSmall x) : x.tick.mk_ ≤ 10000000 := by
  have h1 := h.table
  have h2 := h.dots
  have h3 := x.tk_dots
  unfold PpuD.tick PpuD.mk_
  (repeat' split)
  · omega
  · rw [PpuD.tk_table]; omega
  · simp [PpuD.zero]
theorem PpuD.tickF_small {x : PpuD} (h : PpuSmall x) : x.tickF.length ≤ 1048576 := by
  have h2 := h.dots
  unfold PpuD.tickF PpuD.frame
  (repeat' split) <;> first | exact h2 | simp
end Go.Proofs.Ytjgggmcnbdjdjaa.C
