/- What the functions over rows of rows tell. -/
import Derived.Test.YtolfbmdgkbbnfaaC
namespace Go.Proofs.Ytolfbmdgkbbnfaa.C
open Go.RowKit Go.Proofs.Ytolfbmdgkbbnfaa.K Go.Proofs.Ytolfbmdgkbbnfaa.B
attribute [local go_sem] max2_int min2_int max_two min_two i64_and255 i64_and65535 i64_and1
set_option maxRecDepth 20000
set_option linter.unusedVariables false
set_option linter.unusedSimpArgs false
/-- How many numbers there are in all rows. -/
def lens : List (List Int) → Nat
  | [] => 0
  | x :: xs => x.length + lens xs
theorem lens_take : ∀ (rs : List (List Int)) (k : Nat), k < rs.length → lens (rs.take (k + 1)) = lens (rs.take k) + (rwAt rs k).length
  | [], _, h => by simp at h
  | x :: xs, 0, _ => by simp [lens, rwAt]
  | x :: xs, k + 1, h => by
    have := lens_take xs k (by simpa using h)
    simp only [List.take_succ_cons, lens, this]
    simp [rwAt]; omega
theorem lens_le : ∀ (rs : List (List Int)) (k : Nat), lens (rs.take k) ≤ lens rs
  | [], _ => by simp
  | x :: xs, 0 => by simp [lens]
  | x :: xs, k + 1 => by have := lens_le xs k; simp only [List.take_succ_cons, lens]; omega
theorem lens_row {rs : List (List Int)} {k : Nat} (h : k < rs.length) : (rwAt rs k).length ≤ lens rs := by
  have h1 := lens_take rs k h
  have h2 := lens_le rs (k + 1)
  omega
theorem rows_small {rs : List (List Int)} (h : rs.length + lens rs ≤ 1048576) : rs.length ≤ 1048576 ∧ ∀ k, k < rs.length → (rwAt rs k).length ≤ 1048576 := ⟨by omega, fun k hk => by have := lens_row hk; omega⟩
/-- Something known of no memory. -/
def Ast.pure (φ : Prop) : Ast where
  fp := []
  p w := φ
  st w w' _ h := h
  lv w _ b hb := by cases hb
/-- The rows to be marked, and marked. -/
def rowRs (rs : List (List Int)) (qs : List Sl) : List Ast := List.zipWith (fun xs q => rowI q.A (nums xs)) rs qs
def rowMs : List (List Int) → List Sl → Int → List Ast
  | x :: xs, q :: qs, k => rowI q.A (nums (marks k x.length)) :: rowMs xs qs (k + (x.length : Nat))
  | _, _, _ => []
theorem rows_fp : ∀ (rs : List (List Int)) (qs : List Sl), (rowRs rs qs).flatMap Ast.fp = (rowAs rs qs).flatMap Ast.fp
  | [], _ => rfl
  | _ :: _, [] => rfl
  | x :: xs, q :: qs => by
    have := rows_fp xs qs
    simp only [rowRs, rowAs] at this
    simp only [rowRs, rowAs, List.zipWith_cons_cons, List.flatMap_cons, this]
    rfl
theorem rowAs_row {w : World} : ∀ (rs : List (List Int)) (qs : List Sl), (∀ a, a ∈ rowAs rs qs → a.p w) → ∀ a, a ∈ rowRs rs qs → a.p w
  | [], _, _, a, ha => by simp [rowRs] at ha
  | _ :: _, [], _, a, ha => by simp [rowRs] at ha
  | x :: xs, q :: qs, h, a, ha => by
    simp only [rowRs, List.zipWith_cons_cons, List.mem_cons] at ha
    rcases ha with rfl | ha
    · exact own_row (h (intsA q x) (by simp [rowAs]))
    · exact rowAs_row xs qs (fun a ha => h a (by simp only [rowAs, List.zipWith_cons_cons, List.mem_cons] at ha ⊢; exact .inr ha)) a ha
/-- One of several comes to the head. -/
theorem St.split {w0 W : World} {S : List Nat} {l1 l2 l : List Ast} {x : Ast} (h : St w0 S W (Ast.all (l1 ++ x :: l2) :: l)) : St w0 S W (x :: Ast.all (l1 ++ l2) :: l) := by
  have h1 := h.opn
  have h2 : St w0 S W ((l1 ++ l2) ++ (x :: l)) := h1.perm (by
    simp only [List.append_assoc, List.cons_append]
    exact (List.perm_append_left_iff l1).2 List.perm_middle.symm)
  exact (St.all _ h2).perm (List.Perm.swap _ _ _)
theorem St.join {w0 W : World} {S : List Nat} {l1 l2 l : List Ast} {x : Ast} (h : St w0 S W (x :: Ast.all (l1 ++ l2) :: l)) : St w0 S W (Ast.all (l1 ++ x :: l2) :: l) := by
  have h1 := (h.perm (List.Perm.swap _ _ _)).opn
  refine St.all _ (h1.perm ?_)
  rw [List.append_assoc, List.append_assoc]
  refine (List.perm_append_left_iff l1).2 ?_
  simp only [List.cons_append]
  exact List.perm_middle
theorem rwAt_split {rs : List (List Int)} {k : Nat} (h : k < rs.length) : rs = rs.take k ++ rwAt rs k :: rs.drop (k + 1) := by
  rw [rwAt_at h]; simp
theorem slAt_split {qs : List Sl} {k : Nat} (h : k < qs.length) : qs = qs.take k ++ slAt qs k :: qs.drop (k + 1) := by
  rw [slAt_at h]; simp
theorem take_succ_rw {rs : List (List Int)} {k : Nat} (h : k < rs.length) : rs.take (k + 1) = rs.take k ++ [rwAt rs k] := by
  rw [rwAt_at h, List.take_succ_eq_append_getElem h]
end Go.Proofs.Ytolfbmdgkbbnfaa.C
