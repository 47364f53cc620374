/- What the units that come after do in a variable of their own. (written by wgen.py) -/
import Derived.Test.YtjgggmcnbdjdjaaGreatV
namespace Go.Proofs.YtjgggmcnbdjdjaaGreat.C
open Go.RowKit Go.Proofs.YtjgggmcnbdjdjaaGreat.K Go.Proofs.YtjgggmcnbdjdjaaGreat.B
attribute [local go_sem] max2_int min2_int max_two min_two i64_and255 i64_and65535 i64_and1
set_option maxRecDepth 20000
set_option linter.unusedVariables false
set_option linter.unusedSimpArgs false
theorem ringO_some {w : World} {x : RingD} {q : RingP} (h : (ringO x q).p w) (h0 : 0 < x.list.length) : ∃ g off, q.list.A = some ⟨g, off, none⟩ := by
  have h2 : (rowR q.list.A (recs x.list)).p w := h _ (by simp)
  cases hA : q.list.A with
  | none =>
    rw [hA] at h2
    have h3 : recs x.list = [] := h2
    have := recs_length x.list
    rw [h3] at this
    simp at this
    omega
  | some ad =>
    rw [hA] at h2
    obtain ⟨h3, _⟩ := h2
    obtain ⟨g, off, sp⟩ := ad
    simp only at h3
    subst h3
    exact ⟨g, off, rfl⟩
theorem ringO_tail {w : World} {x : RingD} {g off c : Nat} (h : (ringO x ⟨⟨some ⟨g, off, none⟩, c⟩⟩).p w) (h0 : 0 < x.list.length) : (ringO x.tail ⟨⟨some ⟨g, off + 3, none⟩, c - 1⟩⟩).p w := by
  have h1 : x.list.length ≤ c ∧ x.list.length ≤ 1048576 := h _ (List.mem_cons_self)
  have h2 : (rowR (some ⟨g, off, none⟩) (recs x.list)).p w := h _ (by simp)
  have h3 := row_tail h2 (k := 3) (by rw [recs_length]; omega) rfl
  rw [recs_drop1] at h3
  intro a ha
  simp only [List.mem_cons, List.not_mem_nil, or_false] at ha
  rcases ha with rfl | rfl
  · show x.tail.list.length ≤ c - 1 ∧ x.tail.list.length ≤ 1048576
    rw [RingD.tail_len]; omega
  · exact h3
theorem ringO_tail0 {w : World} {x : RingD} {g off c : Nat} (h : (ringO x ⟨⟨some ⟨g, off, none⟩, c⟩⟩).p w) (h0 : x.list.length ≤ 1) : (ringO x.tail ⟨⟨some ⟨g, off, none⟩, 0⟩⟩).p w := by
  have h2 : (rowR (some ⟨g, off, none⟩) (recs x.list)).p w := h _ (by simp)
  obtain ⟨h1, cur, hh, h2, h3⟩ := h2
  intro a ha
  simp only [List.mem_cons, List.not_mem_nil, or_false] at ha
  rcases ha with rfl | rfl
  · show x.tail.list.length ≤ 0 ∧ x.tail.list.length ≤ 1048576
    rw [RingD.tail_len]; omega
  · refine ⟨rfl, cur, hh, ?_, ?_⟩ <;> simp [RingD.tail, drop1_nil h0, recs]
    simp at h2; omega
end Go.Proofs.YtjgggmcnbdjdjaaGreat.C
