/- Words of my own for arguments: a struct of whatever depth, opened to its leaves; rows of numbers that came in. -/
import Derived.Test.YtjgggmcnbdjdjaaGreatR
import Derived.ProofKit
import Derived.OpenShut
import Derived.ChangeOld
import Derived.SizedLaws
import Derived.ChangeArms
import Derived.Deep.Slices
namespace Go.Proofs.YtjgggmcnbdjdjaaGreat.K
open Go.RowKit Go.ChangeShapes Go.WideShapes Go.ChangeAt Go.Deep
set_option maxRecDepth 20000
set_option linter.unusedVariables false
set_option linter.unusedSimpArgs false

/-- The leaves of a type: whole numbers, flags, slices. -/
def flatFields (g : TypeId → Option (List TypeId)) (P : Program) : List Field → Nat → Option (List TypeId)
  | [], _ => some []
  | f :: fs, off =>
    if f.offset = off then
      match g f.type with
      | none => none
      | some a => if P.cellsOf f.type = a.length then (match flatFields g P fs (off + a.length) with | none => none | some b => some (a ++ b)) else none
    else none
def flat (P : Program) : Nat → TypeId → Option (List TypeId)
  | 0, _ => none
  | k + 1, t =>
    match P.underlying t with
    | some (.struct fs) => (match flatFields (flat P k) P fs.toList 0 with | none => none | some l => if P.cellsOf t = l.length then some l else none)
    | some (.int _) => some [t]
    | some .bool => some [t]
    | some (.slice _) => some [t]
    | _ => none
section
variable {H : Type} {enc : TypeId × Value → H} {P : Program} {w : World} {base : Nat} {spare : Nat → Bool} {held : Bool}
theorem flatFields_at {g : TypeId → Option (List TypeId)} {cs : List Value}
    (hg : ∀ t a, g t = some a → ∀ n ds y, DataW.trod enc P w base spare held n t ds = some y → ∀ (j : Nat) (u : Value) (tj : TypeId), ds[j]? = some u → a[j]? = some tj → ∃ n' y', DataW.trod enc P w base spare held n' tj [u] = some y') :
    ∀ (fs : List Field) (off : Nat) (l : List TypeId), flatFields g P fs off = some l →
      (∀ f, f ∈ fs → ∃ n y, DataW.trod enc P w base spare held n f.type ((cs.drop f.offset).take (P.cellsOf f.type)) = some y) →
      ∀ (j : Nat) (u : Value) (tj : TypeId), cs[off + j]? = some u → l[j]? = some tj → ∃ n' y', DataW.trod enc P w base spare held n' tj [u] = some y'
  | [], off, l, h, _, j, u, tj, _, hl => by
    simp only [flatFields, Option.some.injEq] at h
    subst h
    simp at hl
  | f :: fs, off, l, h, hf, j, u, tj, hu, hl => by
    unfold flatFields at h
    split at h
    · rename_i ho
      split at h
      · cases h
      · rename_i a ha
        split at h
        · rename_i hc
          split at h
          · cases h
          · rename_i b hb
            injection h with h
            subst h
            by_cases hj : j < a.length
            · obtain ⟨n, y, hy⟩ := hf f List.mem_cons_self
              refine hg f.type a ha n _ y hy j u tj ?_ ?_
              · rw [List.getElem?_take, if_pos (by omega), List.getElem?_drop, ho]; exact hu
              · rw [List.getElem?_append_left hj] at hl; exact hl
            · refine flatFields_at hg fs (off + a.length) b hb (fun f' hf' => hf f' (List.mem_cons_of_mem _ hf')) (j - a.length) u tj ?_ ?_
              · rw [show off + a.length + (j - a.length) = off + j by omega]; exact hu
              · rw [List.getElem?_append_right (by omega)] at hl; exact hl
        · cases h
    · cases h
theorem flat_at : ∀ (k : Nat) (t : TypeId) (l : List TypeId), flat P k t = some l → ∀ n (ds : List Value) y, DataW.trod enc P w base spare held n t ds = some y → ∀ (j : Nat) (u : Value) (tj : TypeId), ds[j]? = some u → l[j]? = some tj → ∃ n' y', DataW.trod enc P w base spare held n' tj [u] = some y'
  | 0, _, _, h, _, _, _, _, _, _, _, _, _ => by simp [flat] at h
  | k + 1, t, l, h, n, ds, y, hy, j, u, tj, hu, hl => by
    unfold flat at h
    have leaf : l = [t] → ds.length = 1 → ∃ n' y', DataW.trod enc P w base spare held n' tj [u] = some y' := by
      rintro rfl h1
      match ds, h1 with
      | [d], _ =>
        have hj : j = 0 := by
          rcases j with _ | j
          · rfl
          · simp at hu
        subst hj
        simp at hu hl
        subst hu hl
        exact ⟨n, y, hy⟩
    split at h
    · rename_i fs hfs
      split at h
      · cases h
      · rename_i l' hl'
        split at h
        · injection h with h
          subst h
          obtain ⟨xs, m, _, _, _, hlen, hf⟩ := DataW.trod_struct hfs hy
          refine flatFields_at (cs := ds) (fun t a ha n ds y => flat_at k t a ha n ds y) fs.toList 0 l' hl' (fun f hm => ?_) j u tj (by rw [Nat.zero_add]; exact hu) hl
          obtain ⟨i, hi, rfl⟩ := List.getElem_of_mem hm
          have hi' : i < fs.size := by simpa using hi
          have h1 := hf i fs[i] (Array.getElem?_eq_getElem hi')
          have h2 : xs[i]? = some (xs[i]'(by omega)) := List.getElem?_eq_getElem (by omega)
          exact ⟨m, _, by simpa using h1.trans h2⟩
        · cases h
    · rename_i k' hk'
      obtain ⟨n', rfl, _⟩ := DataW.trod_int hk' hy
      exact leaf (by injection h with h; exact h.symm) rfl
    · rename_i hk'
      obtain ⟨b', rfl, _⟩ := DataW.trod_bool hk' hy
      exact leaf (by injection h with h; exact h.symm) rfl
    · rename_i e hk'
      rcases open_slice hk' hy with ⟨rfl, _⟩ | ⟨a, len, cap, m, _, _, _, rfl, _⟩
      · exact leaf (by injection h with h; exact h.symm) rfl
      · exact leaf (by injection h with h; exact h.symm) rfl
    · cases h
/-- A struct argument, opened: its cells, and of each that it reads. -/
theorem open_flat {r : Reach} {b0 k : Nat} {t : TypeId} {fs : Array Field} {v : Value} {d : DataW H} {p : List MemPlace} {l : List TypeId} (hs : P.underlying t = some (.struct fs)) (hl : flat P k t = some l) (hC : P.cellsOf t = l.length)
    (hv : Value.okWide P w r b0 t v) (h : DataW.Trod enc P w base spare held t v d p) :
    ∃ cs : List Value, v = .agg cs.toArray ∧ cs.length = l.length ∧ ∀ (j : Nat) (u : Value) (tj : TypeId), cs[j]? = some u → l[j]? = some tj → ∃ n y, DataW.trod enc P w base spare held n tj [u] = some y := by
  obtain ⟨⟨cs⟩, rfl, hsz⟩ := okWide_struct hs hv
  obtain ⟨fuel, hf⟩ := h
  refine ⟨cs, rfl, by have := hsz.trans hC; simpa using this, fun j u tj hu ht => flat_at k t l hl fuel cs _ (by simpa [Value.cells] using hf) j u tj hu ht⟩
theorem leaf_int {t : TypeId} {n : Nat} {u : Value} {y : DataW H × List MemPlace} {k : IntKind} (ht : P.underlying t = some (.int k)) (h : DataW.trod enc P w base spare held n t [u] = some y) : ∃ x, u = .int k x ∧ (Lit.int k x).wf = true := by
  obtain ⟨x, h1, _, h2⟩ := DataW.trod_int ht h
  exact ⟨x, by simpa using h1, h2⟩
theorem leaf_bool {t : TypeId} {n : Nat} {u : Value} {y : DataW H × List MemPlace} (ht : P.underlying t = some .bool) (h : DataW.trod enc P w base spare held n t [u] = some y) : ∃ x, u = .bool x := by
  obtain ⟨x, h1, _⟩ := DataW.trod_bool ht h
  exact ⟨x, by simpa using h1⟩
theorem leaf_ints {t e : TypeId} {n : Nat} {u : Value} {y : DataW H × List MemPlace} (ht : P.underlying t = some (.slice e)) (he : P.underlying e = some (.int .i64)) (hc : P.cellsOf e = 1) (h : DataW.trod enc P w base spare held n t [u] = some y) :
    ∃ (A : Option Addr) (c : Nat) (xs : List Int), u = .slice A xs.length c ∧ InI w A c xs ∧ ∀ x, x ∈ xs → (Lit.int .i64 x).wf = true := by
  rcases open_ints ht he hc h with ⟨hcs, _⟩ | ⟨x, l, c, zs, hcs, _, hl, hm, hz, _, hcell, hwz⟩
  · simp at hcs
    exact ⟨none, 0, [], hcs, ⟨Nat.le_refl _, by simp, fun h => absurd h (by simp)⟩, fun x hx => by cases hx⟩
  · simp at hcs
    have hlz : l ≤ zs.length := by rw [hz]; split <;> omega
    unfold maxLen at hm
    refine ⟨some x, c, zs.take l, by rw [List.length_take, Nat.min_eq_left hlz]; exact hcs, ⟨by rw [List.length_take]; omega, by rw [List.length_take]; omega, fun _ => ⟨x, rfl, fun j hj => ?_⟩⟩, fun z hz' => hwz z (List.mem_of_mem_take hz')⟩
    have hj' : j < l := by rw [List.length_take] at hj; omega
    rw [hcell j (by omega)]
    simp only [rd, List.getD_eq_getElem?_getD, List.getElem?_take, hj', if_true]
end
theorem array2 {cs : List Value} (h : cs.length = 2) : ∃ c0 c1, cs = [c0, c1] := by
  match cs, h with
  | [c0, c1], _ => exact ⟨c0, c1, rfl⟩
theorem array3 {cs : List Value} (h : cs.length = 3) : ∃ c0 c1 c2, cs = [c0, c1, c2] := by
  match cs, h with
  | [c0, c1, c2], _ => exact ⟨c0, c1, c2, rfl⟩
theorem array8 {cs : List Value} (h : cs.length = 8) : ∃ c0 c1 c2 c3 c4 c5 c6 c7, cs = [c0, c1, c2, c3, c4, c5, c6, c7] := by
  match cs, h with
  | [c0, c1, c2, c3, c4, c5, c6, c7], _ => exact ⟨c0, c1, c2, c3, c4, c5, c6, c7, rfl⟩
theorem array7 {cs : List Value} (h : cs.length = 7) : ∃ c0 c1 c2 c3 c4 c5 c6, cs = [c0, c1, c2, c3, c4, c5, c6] := by
  match cs, h with
  | [c0, c1, c2, c3, c4, c5, c6], _ => exact ⟨c0, c1, c2, c3, c4, c5, c6, rfl⟩
end Go.Proofs.YtjgggmcnbdjdjaaGreat.K
