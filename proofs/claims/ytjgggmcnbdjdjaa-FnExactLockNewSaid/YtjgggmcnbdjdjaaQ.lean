/- What the dots of the picture unit tell. -/
import Derived.Test.YtjgggmcnbdjdjaaP
namespace Go.Proofs.Ytjgggmcnbdjdjaa.C
open Go.RowKit Go.Proofs.Ytjgggmcnbdjdjaa.K Go.Proofs.Ytjgggmcnbdjdjaa.B
attribute [local go_sem] max2_int min2_int max_two min_two i64_and255 i64_and65535 i64_and1
set_option maxRecDepth 20000
set_option linter.unusedVariables false
set_option linter.unusedSimpArgs false
/-- The place in the table of a dot. -/
def PpuD.place (x : PpuD) (at_ : Int) : Nat := ((at_ % 8 + x.scroll + at_ / 8) % 16).toNat
def PpuD.dot (x : PpuD) (at_ : Int) : Int := bits .xor .i64 (rd x.table (x.place at_)) x.pal
theorem PpuD.ok_at {x : PpuD} (h : x.ok = true) : (0 ≤ x.t ∧ x.t ≤ 20000) ∧ (0 ≤ x.ctrl ∧ x.ctrl ≤ 255) ∧ (0 ≤ x.scroll ∧ x.scroll ≤ 255) ∧ (0 ≤ x.addr ∧ x.addr ≤ 15) ∧ (0 ≤ x.pal ∧ x.pal ≤ 63) ∧ x.table.length = 16 ∧ allB 0 63 x.table = true ∧ (x.dots.length : Int) = dotsN x.t ∧ allB 0 63 x.dots = true := by
  simp only [PpuD.ok, Bool.and_eq_true, inB_iff, beq_iff_eq] at h
  obtain ⟨h1, h2, h3, h4, h5, h6, h7, h8, h9⟩ := h
  exact ⟨h1, h2, h3, h4, h5, by omega, h7, h8, h9⟩
def PpuD.dotAt (x : PpuD) (at_ : Int) : Int := if x.ok = true ∧ inB at_ 0 47 = true then x.dot at_ else 0
end Go.Proofs.Ytjgggmcnbdjdjaa.C
