/- Bytes that came in. -/
import Derived.Test.YtodjaobmhiglcaaDR
import Derived.Test.YtodjaobmhiglcaaO2
namespace Go.Proofs.Ytodjaobmhiglcaa.C
open Go.RowKit Go.ChangeShapes Go.WideShapes Go.ChangeAt Go.Deep Go.Proofs.Ytodjaobmhiglcaa.K Go.Proofs.Ytodjaobmhiglcaa.B
set_option maxRecDepth 20000
set_option linter.unusedVariables false
set_option linter.unusedSimpArgs false
section
variable {P : Program} {w : World} {base spare : Nat} {held : Bool}
theorem leaf_bytes {H : Type} {enc : TypeId × Value → H} {P : Program} {w : World} {base : Nat} {spare : Nat → Bool} {held : Bool} {t e : TypeId} {n : Nat} {u : Value} {y : DataW H × List MemPlace} (ht : P.underlying t = some (.slice e)) (he : P.underlying e = some (.int .u8)) (hc : P.cellsOf e = 1) (h : DataW.trod enc P w base spare held n t [u] = some y) :
    ∃ (A : Option Addr) (c : Nat) (xs : List Int), u = .slice A xs.length c ∧ InB w A c xs := by
  rcases open_ints ht he hc h with ⟨hcs, _⟩ | ⟨x, l, c, zs, hcs, _, hl, hm, hz, _, hcell, hwz⟩
  · simp at hcs
    exact ⟨none, 0, [], hcs, ⟨Nat.le_refl _, by simp, fun h => absurd h (by simp)⟩⟩
  · simp at hcs
    have hlz : l ≤ zs.length := by rw [hz]; split <;> omega
    unfold maxLen at hm
    refine ⟨some x, c, zs.take l, by rw [List.length_take, Nat.min_eq_left hlz]; exact hcs, ⟨by rw [List.length_take]; omega, by rw [List.length_take]; omega, fun _ => ⟨x, rfl, fun j hj => ?_⟩⟩⟩
    have hj' : j < l := by rw [List.length_take] at hj; omega
    rw [hcell j (by omega)]
    simp only [rd, List.getD_eq_getElem?_getD, List.getElem?_take, hj', if_true]
end
end Go.Proofs.Ytodjaobmhiglcaa.C
