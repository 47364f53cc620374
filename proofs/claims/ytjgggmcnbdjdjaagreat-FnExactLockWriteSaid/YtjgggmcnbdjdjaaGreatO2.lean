/- Words of my own for arguments: slices of structs and slices of slices that came in. -/
import Derived.Test.YtjgggmcnbdjdjaaGreatO
import Derived.Test.YtjgggmcnbdjdjaaGreatC
namespace Go.Proofs.YtjgggmcnbdjdjaaGreat.C
open Go.RowKit Go.ChangeShapes Go.WideShapes Go.ChangeAt Go.Deep Go.Proofs.YtjgggmcnbdjdjaaGreat.K Go.Proofs.YtjgggmcnbdjdjaaGreat.B
set_option maxRecDepth 20000
set_option linter.unusedVariables false
set_option linter.unusedSimpArgs false
section
variable {H : Type} {enc : TypeId × Value → H} {P : Program} {w : World} {base : Nat} {spare : Nat → Bool} {held : Bool}
theorem leaf_rows {t e q : TypeId} {n : Nat} {u : Value} {y : DataW H × List MemPlace} (ht : P.underlying t = some (.slice e)) (he : P.underlying e = some (.slice q)) (hq : P.underlying q = some (.int .i64)) (ce : P.cellsOf e = 1) (cq : P.cellsOf q = 1) (h : DataW.trod enc P w base spare held n t [u] = some y) :
    ∃ (r : Rw) (xs : List (List Int)), u = .slice r.s.A xs.length r.s.c ∧ InRR w r xs := by
  rcases open_slice1 ht ce h with ⟨hcs, _⟩ | ⟨a, len, cap, m, n', V, D, Pl, hcs, _, hl, hm, hmm, _, hx⟩
  · simp at hcs
    exact ⟨Rw.nil, [], hcs, InRR.nil w⟩
  · simp at hcs
    have hlm : len ≤ m := by rw [hmm]; split <;> omega
    have key : ∀ i, i < len → ∃ p : Sl × List Int, V i = .slice p.1.A p.2.length p.1.c ∧ InI w p.1.A p.1.c p.2 := fun i hi => by
      obtain ⟨A, c, xs, h1, h2, _⟩ := leaf_ints he hq cq (hx i (by omega)).2
      exact ⟨(⟨A, c⟩, xs), h1, h2⟩
    let R : Nat → Sl × List Int := fun i => if hi : i < len then Classical.choose (key i hi) else (Sl.nil, [])
    have hR : ∀ i, i < len → V i = .slice (R i).1.A (R i).2.length (R i).1.c ∧ InI w (R i).1.A (R i).1.c (R i).2 := fun i hi => by
      have := Classical.choose_spec (key i hi)
      simp only [R, dif_pos hi]
      exact this
    unfold maxLen at hm
    have hr : ∀ k, k < len → rwAt ((List.range len).map fun i => (R i).2) k = (R k).2 := fun k hk => by simp [rwAt, hk]
    have hs : ∀ k, k < len → slAt ((List.range len).map fun i => (R i).1) k = (R k).1 := fun k hk => by simp [slAt, hk]
    refine ⟨⟨⟨some a, cap⟩, (List.range len).map fun i => (R i).1⟩, (List.range len).map fun i => (R i).2, by simpa using hcs, ⟨by simpa using hl, by simp; omega, by simp, fun j v hj => ?_, fun k hk => ?_⟩⟩
    · have hj' : j < len := by
        have := (List.getElem?_eq_some_iff.1 hj).1
        rw [rowVals_length _ _ (by simp)] at this
        simpa using this
      rw [rowVals_at (by simpa using hj') (by simp), hr j hj', hs j hj'] at hj
      injection hj with hj
      exact ⟨a, rfl, by rw [(hx j (by omega)).1, (hR j hj').1, hj]⟩
    · have hk' : k < len := by simpa using hk
      simp only
      rw [hr k hk', hs k hk']
      exact (hR k hk').2
theorem in_recs {A : Option Addr} {a : Addr} (hA : A = some a) {xs : List RecD} (h : ∀ k, k < xs.length → ∀ (i : Nat) (v : Value), (rec1 (rdr xs k))[i]? = some v → w.cell? ((a.add (k * 3)).add i) = some v) : In w A (recs xs) := by
  subst hA
  intro j v hj
  refine ⟨a, rfl, ?_⟩
  have hl : j < xs.length * 3 := by have := (List.getElem?_eq_some_iff.1 hj).1; rwa [recs_length] at this
  have hk : j / 3 < xs.length := by omega
  have hi : j % 3 < 3 := Nat.mod_lt _ (by omega)
  have hlen : (rec1 (rdr xs (j / 3))).length = 3 := rfl
  have h1 : (rec1 (rdr xs (j / 3)))[j % 3]? = some ((rec1 (rdr xs (j / 3)))[j % 3]'(by omega)) := List.getElem?_eq_getElem (by omega)
  have h2 := recs_at hk h1
  rw [show j / 3 * 3 + j % 3 = j by omega, hj] at h2
  injection h2 with h2
  have h3 := h _ hk _ _ h1
  rw [Addr.add_add, show j / 3 * 3 + j % 3 = j by omega] at h3
  rw [h3, h2]
theorem leaf_recs {t e i : TypeId} {n k : Nat} {u : Value} {y : DataW H × List MemPlace} (ht : P.underlying t = some (.slice e)) (hf : flat P k e = some [i, i, i]) (hi : P.underlying i = some (.int .i64)) (hc : P.cellsOf e = 3) (h : DataW.trod enc P w base spare held n t [u] = some y) :
    ∃ (A : Option Addr) (c : Nat) (xs : List RecD), u = .slice A xs.length c ∧ InR w A c xs := by
  rcases open_slice ht h with ⟨hcs, _⟩ | ⟨a, len, cap, m, n', D, Pl, hcs, _, hl, hm, hmm, _, hx⟩
  · simp at hcs
    exact ⟨none, 0, [], hcs, InR.nil w⟩
  · simp at hcs
    have hlm : len ≤ m := by rw [hmm]; split <;> omega
    have key : ∀ j, j < len → ∃ r : RecD, ∀ (z : Nat) (v : Value), (rec1 r)[z]? = some v → w.cell? ((a.add (j * 3)).add z) = some v := fun j hj => by
      obtain ⟨cs', h1, h2⟩ := hx j (by omega)
      rw [hc] at h1
      obtain ⟨_, h3, h4⟩ := World.cells?_some h1
      obtain ⟨c0, c1, c2, rfl⟩ := array3 h3
      obtain ⟨_, _, t0⟩ := flat_at k e _ hf _ _ _ h2 0 _ _ rfl rfl
      obtain ⟨_, _, t1⟩ := flat_at k e _ hf _ _ _ h2 1 _ _ rfl rfl
      obtain ⟨_, _, t2⟩ := flat_at k e _ hf _ _ _ h2 2 _ _ rfl rfl
      obtain ⟨x0, rfl, _⟩ := leaf_int hi t0
      obtain ⟨x1, rfl, _⟩ := leaf_int hi t1
      obtain ⟨x2, rfl, _⟩ := leaf_int hi t2
      refine ⟨⟨x0, x1, x2⟩, fun z v hz => ?_⟩
      have hz3 : z < 3 := (List.getElem?_eq_some_iff.1 hz).1
      rw [h4 z hz3]
      exact hz
    let R : Nat → RecD := fun j => if hj : j < len then Classical.choose (key j hj) else ⟨0, 0, 0⟩
    have hR : ∀ j, j < len → ∀ (z : Nat) (v : Value), (rec1 (R j))[z]? = some v → w.cell? ((a.add (j * 3)).add z) = some v := fun j hj => by
      have := Classical.choose_spec (key j hj)
      simp only [R, dif_pos hj]
      exact this
    unfold maxLen at hm
    refine ⟨some a, cap, (List.range len).map R, by simpa using hcs, by simpa using hl, by simp; omega, in_recs rfl fun k hk z v hz => ?_⟩
    have hk' : k < len := by simpa using hk
    have : rdr ((List.range len).map R) k = R k := by simp [rdr, hk']
    rw [this] at hz
    exact hR k hk' z v hz
end
end Go.Proofs.YtjgggmcnbdjdjaaGreat.C
