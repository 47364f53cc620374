/- What the functions over rings of records tell: copied in, alike, marked, held. -/
import Derived.Test.YtolfbmdgkbbnfaaC1
namespace Go.Proofs.Ytolfbmdgkbbnfaa.C
open Go.RowKit Go.Proofs.Ytolfbmdgkbbnfaa.K Go.Proofs.Ytolfbmdgkbbnfaa.B
attribute [local go_sem] max2_int min2_int max_two min_two i64_and255 i64_and65535 i64_and1
set_option maxRecDepth 20000
set_option linter.unusedVariables false
set_option linter.unusedSimpArgs false
structure RecD where (t r v : Int)
abbrev rec1 (x : RecD) : List Value := [.int .i64 x.t, .int .i64 x.r, .int .i64 x.v]
def recs : List RecD → List Value
  | [] => []
  | x :: xs => rec1 x ++ recs xs
def rdr (rs : List RecD) (i : Nat) : RecD := rs.getD i ⟨0, 0, 0⟩
theorem rdr_at {rs : List RecD} {i : Nat} (h : i < rs.length) : rdr rs i = rs[i] := by simp [rdr, List.getD_eq_getElem?_getD, List.getElem?_eq_getElem h]
theorem rdr_ext {xs ys : List RecD} (h : xs.length = ys.length) (hr : ∀ j, j < xs.length → rdr xs j = rdr ys j) : xs = ys := by
  refine List.ext_getElem h fun j h1 h2 => ?_
  have := hr j h1
  rwa [rdr_at h1, rdr_at h2] at this
theorem rdr_set {xs : List RecD} {k j : Nat} {v : RecD} (h : k < xs.length) : rdr (xs.set k v) j = if j = k then v else rdr xs j := by
  unfold rdr
  rw [List.getD_eq_getElem?_getD, List.getD_eq_getElem?_getD, List.getElem?_set]
  by_cases e : j = k
  · subst e; simp [h]
  · rw [if_neg (fun h => e h.symm), if_neg e]
theorem rdr_step {cur rs : List RecD} {k : Nat} (h : ∀ j, j < k → rdr cur j = rdr rs j) (hk : k < cur.length) : ∀ j, j < k + 1 → rdr (cur.set k (rdr rs k)) j = rdr rs j := fun j hj => by
  rw [rdr_set hk]
  by_cases e : j = k
  · rw [if_pos e, e]
  · rw [if_neg e]; exact h j (by omega)
theorem recs_length : ∀ rs : List RecD, (recs rs).length = rs.length * 3
  | [] => rfl
  | x :: xs => by simp only [recs, rec1, List.length_append, List.length_cons, List.length_nil, recs_length xs]; omega
theorem recs_append : ∀ xs ys : List RecD, recs (xs ++ ys) = recs xs ++ recs ys
  | [], ys => rfl
  | x :: xs, ys => by simp only [List.cons_append, recs, recs_append xs ys, List.append_assoc]
theorem recs_take : ∀ (rs : List RecD) (k : Nat), (recs rs).take (k * 3) = recs (rs.take k)
  | [], k => by simp [recs]
  | x :: xs, 0 => by simp [recs]
  | x :: xs, k + 1 => by
    simp only [recs, List.take_succ_cons, ← recs_take xs k, rec1, List.cons_append, List.nil_append, show (k + 1) * 3 = k * 3 + 1 + 1 + 1 by omega]
theorem recs_drop : ∀ (rs : List RecD) (k : Nat), (recs rs).drop (k * 3) = recs (rs.drop k)
  | [], k => by simp [recs]
  | x :: xs, 0 => by simp [recs]
  | x :: xs, k + 1 => by
    simp only [recs, List.drop_succ_cons, ← recs_drop xs k, rec1, List.cons_append, List.nil_append, show (k + 1) * 3 = k * 3 + 1 + 1 + 1 by omega]
theorem recs_set (rs : List RecD) (k : Nat) (x : RecD) (h : k < rs.length) : (recs rs).take (k * 3) ++ rec1 x ++ (recs rs).drop (k * 3 + 3) = recs (rs.set k x) := by
  rw [recs_take, show k * 3 + 3 = (k + 1) * 3 by omega, recs_drop, List.set_eq_take_append_cons_drop, if_pos h, recs_append]
  simp [recs]
theorem recs_at {rs : List RecD} {k : Nat} (h : k < rs.length) {j : Nat} {v : Value} (hj : (rec1 (rdr rs k))[j]? = some v) : (recs rs)[k * 3 + j]? = some v := by
  have hj3 : j < 3 := by have := (List.getElem?_eq_some_iff.1 hj).1; simpa [rec1] using this
  have h1 : (recs rs)[k * 3 + j]? = ((recs rs).drop (k * 3))[j]? := by rw [List.getElem?_drop]
  rw [h1, recs_drop, List.drop_eq_getElem_cons h, ← rdr_at h]
  simp only [recs]
  rw [List.getElem?_append_left (by simp [rec1]; omega)]
  exact hj
theorem recs_one (rs : List RecD) : (recs rs).all (·.oneCell') = true := by
  induction rs with
  | nil => rfl
  | cons x xs ih => simp only [recs, List.all_append, ih]; rfl
theorem recs_zero (n : Nat) : recs (List.replicate n ⟨0, 0, 0⟩) = List.replicate (n * 3) (.int .i64 0) := by
  induction n with
  | zero => rfl
  | succ n ih => rw [List.replicate_succ, recs, ih, show (n + 1) * 3 = n * 3 + 1 + 1 + 1 by omega]; rfl
theorem made_recs (n : Nat) : (madeCells (Value.cells (.agg #[.int .i64 0, .int .i64 0, .int .i64 0])) (n * 3)).toList = recs (List.replicate n ⟨0, 0, 0⟩) := by
  rw [recs_zero]
  apply List.ext_getElem?
  intro j
  by_cases hj : j < n * 3
  · have h3 : j % 3 < 3 := Nat.mod_lt _ (by omega)
    rcases (by omega : j % 3 = 0 ∨ j % 3 = 1 ∨ j % 3 = 2) with h | h | h <;> simp [madeCells, hj, Value.cells, h]
  · simp [madeCells, hj]
abbrev rowR (A : Option Addr) (cs : List Value) : Ast := Ast.row 41 A cs
abbrev ownR (A : Option Addr) (c : Nat) (rs : List RecD) : Ast := Ast.own 41 3 A rs.length c (recs rs)
/-- A slice of records reads as rs. -/
def InR (w : World) (A : Option Addr) (c : Nat) (rs : List RecD) : Prop := rs.length ≤ c ∧ rs.length ≤ 9223372036854775807 ∧ In w A (recs rs)
theorem InR.on {w0 W : World} {A : Option Addr} {c : Nat} {rs : List RecD} (h : InR w0 A c rs) {l : List Ast} (H : St w0 [] W l) : InR W A c rs := ⟨h.1, h.2.1, h.2.2.on H⟩
theorem InR.of {w : World} {A : Option Addr} {c : Nat} {rs : List RecD} (h : (ownR A c rs).p w) : InR w A c rs := ⟨(own_le h).1, (own_le h).2, own_in h⟩
theorem InR.keep {w W : World} {A : Option Addr} {c : Nat} {rs : List RecD} (h : InR w A c rs) (hb : Below w.heap.size w W) : InR W A c rs := ⟨h.1, h.2.1, h.2.2.keep hb⟩
theorem InR.nil (w : World) : InR w none 0 [] := ⟨Nat.le_refl _, by simp, In.nil _ _⟩
theorem InR.cell {w0 W : World} {A : Option Addr} {c : Nat} {rs : List RecD} (h : InR w0 A c rs) {l : List Ast} (H : St w0 [] W l) {k : Nat} (hk : k < rs.length) :
    ∃ ad, A = some ad ∧ ∀ (j : Nat) (v : Value), (rec1 (rdr rs k))[j]? = some v → W.cell? ((ad.add (k * 3)).add j) = some v := by
  obtain ⟨ad, h1, h2⟩ := (h.on H).2.2.at (by rw [recs_length]; omega)
  refine ⟨ad, h1, fun j v hj => ?_⟩
  rw [Go.Addr.add_add]
  exact h2 _ _ (recs_at hk hj)
theorem InR.none {w : World} {A : Option Addr} {c : Nat} {rs : List RecD} (h : InR w A c rs) : A = Option.none → rs.length = 0 := fun e => by
  rcases Nat.eq_zero_or_pos rs.length with h0 | h0
  · exact h0
  · obtain ⟨ad, h1, _⟩ := h.2.2.at (by rw [recs_length]; omega)
    rw [e] at h1; cases h1
theorem info_rec : (Try.prog.info? 41).map (fun i => (i.zero, i.size, i.bytes)) = some (some (.agg #[.int .i64 0, .int .i64 0, .int .i64 0]), 3, 24) := by kernel_rfl
structure RingD where (cap : Int) (list : List RecD)
end Go.Proofs.Ytolfbmdgkbbnfaa.C
