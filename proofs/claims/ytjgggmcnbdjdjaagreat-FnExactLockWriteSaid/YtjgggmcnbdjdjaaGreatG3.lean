/- Rings, as data: what is left of one that is right is right. -/
import Derived.Test.YtjgggmcnbdjdjaaGreatG
namespace Go.Proofs.YtjgggmcnbdjdjaaGreat.C
open Go.RowKit Go.Proofs.YtjgggmcnbdjdjaaGreat.K Go.Proofs.YtjgggmcnbdjdjaaGreat.B
set_option maxRecDepth 20000
set_option linter.unusedVariables false
set_option linter.unusedSimpArgs false
theorem rdr_drop (rs : List RecD) (k j : Nat) : rdr (rs.drop k) j = rdr rs (k + j) := by simp [rdr, List.getD_eq_getElem?_getD]
theorem okAll_drop {rs : List RecD} (h : okAll rs = true) : okAll (rs.drop 1) = true := by
  refine okAll_yes fun k hk => ?_
  have hk' : k + 1 < rs.length := by simp at hk; omega
  have h1 := okAll_at h hk'
  unfold okAt at h1 ⊢
  rw [Bool.and_eq_true] at h1 ⊢
  refine ⟨by rw [rdr_drop, Nat.add_comm]; exact h1.1, ?_⟩
  rcases Nat.eq_zero_or_pos k with h0 | h0
  · subst h0; rfl
  · have e : (k == 0) = false := by rw [beq_eq_false_iff_ne]; omega
    have e' : (k + 1 == 0) = false := by rw [beq_eq_false_iff_ne]; omega
    have h2 := h1.2
    rw [e', Bool.false_or] at h2
    rw [e, Bool.false_or, rdr_drop, rdr_drop, show 1 + (k - 1) = k + 1 - 1 by omega, show 1 + k = k + 1 by omega]
    exact h2
theorem RingD.ok_at {x : RingD} (h : x.ok = true) : okAll x.list = true ∧ (1 ≤ x.cap ∧ x.cap ≤ 16) ∧ (x.list.length : Int) ≤ x.cap := by
  unfold RingD.ok at h
  rw [Bool.and_eq_true, Bool.and_eq_true, inB_iff, decide_eq_true_eq] at h
  exact h
theorem RingD.ok_mk {x : RingD} (h1 : okAll x.list = true) (h2 : 1 ≤ x.cap) (h3 : x.cap ≤ 16) (h4 : (x.list.length : Int) ≤ x.cap) : x.ok = true := by
  unfold RingD.ok
  rw [Bool.and_eq_true, Bool.and_eq_true, inB_iff, decide_eq_true_eq]
  exact ⟨h1, ⟨h2, h3⟩, h4⟩
theorem RingD.tail_ok {x : RingD} (h : x.ok = true) : x.tail.ok = true := by
  obtain ⟨h1, ⟨h2, h3⟩, h4⟩ := RingD.ok_at h
  exact RingD.ok_mk (okAll_drop h1) h2 h3 (by show ((x.list.drop 1).length : Int) ≤ x.cap; simp; omega)
theorem RingD.ok_len {x : RingD} (h : x.ok = true) : x.list.length ≤ 16 := by
  obtain ⟨h1, ⟨h2, h3⟩, h4⟩ := RingD.ok_at h
  omega
theorem RingD.tail_len {x : RingD} : x.tail.list.length = x.list.length - 1 := by simp [RingD.tail]
end Go.Proofs.YtjgggmcnbdjdjaaGreat.C
