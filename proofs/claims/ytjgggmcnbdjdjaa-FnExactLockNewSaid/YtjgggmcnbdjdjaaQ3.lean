/- What PpuWrite, PpuRead tell. -/
import Derived.Test.YtjgggmcnbdjdjaaQ2
namespace Go.Proofs.Ytjgggmcnbdjdjaa.C
open Go.RowKit Go.Proofs.Ytjgggmcnbdjdjaa.K Go.Proofs.Ytjgggmcnbdjdjaa.B
attribute [local go_sem] max2_int min2_int max_two min_two i64_and255 i64_and65535 i64_and1
set_option maxRecDepth 20000
set_option linter.unusedVariables false
set_option linter.unusedSimpArgs false
def PpuD.write (x : PpuD) (r v : Int) : PpuD := if x.ok = true then x.wr r v else x
def PpuD.read (x : PpuD) (r : Int) : PpuD := if x.ok = true then x.rdx r else x
def PpuD.says (x : PpuD) (r : Int) : Int := if x.ok = true then x.rdv r else 0
theorem PpuD.wr_dots (x : PpuD) (r v : Int) : (x.wr r v).dots = x.dots := by unfold PpuD.wr; (repeat' split) <;> rfl
theorem PpuD.rdx_dots (x : PpuD) (r : Int) : (x.rdx r).dots = x.dots := by unfold PpuD.rdx; (repeat' split) <;> rfl
theorem PpuD.rdx_table (x : PpuD) (r : Int) : (x.rdx r).table = x.table := by unfold PpuD.rdx; (repeat' split) <;> rfl
theorem PpuD.wr_len (x : PpuD) (r v : Int) : (x.wr r v).table.length = x.table.length := by unfold PpuD.wr PpuD.poke; (repeat' split) <;> simp
theorem PpuD.write_mk {x : PpuD} (h : PpuSmall x) (r v : Int) : (x.write r v).mk_ ≤ 100000000 := by
  have h1 := h.table
  have h2 := h.dots
  unfold PpuD.write PpuD.mk_
  split
  · rw [PpuD.wr_len, PpuD.wr_dots]; omega
  · omega
theorem PpuD.read_mk {x : PpuD} (h : PpuSmall x) (r : Int) : (x.read r).mk_ ≤ 100000000 := by
  have h1 := h.table
  have h2 := h.dots
  unfold PpuD.read PpuD.mk_
  split
  · rw [PpuD.rdx_table, PpuD.rdx_dots]; omega
  · omega
end Go.Proofs.Ytjgggmcnbdjdjaa.C
