/- What the functions over rows of numbers, and rows of rows, tell: counted, copied in, alike, marked, held. -/
import Derived.Test.YtolfbmdgkbbnfaaA
import Derived.Test.YtolfbmdgkbbnfaaB
import Derived.Test.YtolfbmdgkbbnfaaE
import Derived.Test.YtolfbmdgkbbnfaaF
namespace Go.Proofs.Ytolfbmdgkbbnfaa.C
open Go.RowKit Go.Proofs.Ytolfbmdgkbbnfaa.K Go.Proofs.Ytolfbmdgkbbnfaa.B
attribute [local go_sem] max2_int min2_int max_two min_two i64_and255 i64_and65535 i64_and1
set_option maxRecDepth 20000
set_option linter.unusedVariables false
set_option linter.unusedSimpArgs false
/-- What is left behind n elements more. -/
def szOf (left : Int) (n : Nat) : Int := max (-1) (left - n)
/-- n numbers from k on. -/
def marks : Int → Nat → List Int
  | _, 0 => []
  | k, n + 1 => k :: marks (k + 1) n
theorem marks_length : ∀ (n : Nat) (k : Int), (marks k n).length = n
  | 0, _ => rfl
  | n + 1, k => by simp [marks, marks_length n]
theorem marks_snoc : ∀ (n : Nat) (k : Int), marks k (n + 1) = marks k n ++ [k + n]
  | 0, k => by simp [marks]
  | n + 1, k => by
    rw [marks, marks_snoc n (k + 1), marks, List.cons_append, show k + 1 + (n : Int) = k + ((n + 1 : Nat) : Int) by omega]
theorem marks_at : ∀ (n : Nat) (k : Int) (j : Nat), j < n → (nums (marks k n))[j]? = some (.int .i64 (k + j))
  | 0, _, _, h => by omega
  | n + 1, k, 0, _ => by simp [marks, nums]
  | n + 1, k, j + 1, h => by
    have := marks_at n (k + 1) j (by omega)
    simp only [nums] at this
    simp only [marks, nums, List.map_cons, List.getElem?_cons_succ, this]
    congr 2; omega
/-- The next cell of a row that is being marked. -/
theorem mark_step (cs : List Value) (k x : Int) (m : Nat) (h : m < cs.length) (hx : x = k + m) : (nums (marks k m) ++ cs.drop m).take m ++ [.int .i64 x] ++ (nums (marks k m) ++ cs.drop m).drop (m + 1) = nums (marks k (m + 1)) ++ cs.drop (m + 1) := by
  subst hx
  have hl : (nums (marks k m)).length = m := by rw [nums_length, marks_length]
  rw [List.take_append_of_le_length (by omega), List.take_of_length_le (by omega), marks_snoc, nums_append, nums_one, List.drop_append, List.drop_of_length_le (by omega), hl, List.nil_append, List.drop_drop]
  congr 2
  omega
abbrev rowI (A : Option Addr) (cs : List Value) : Ast := Ast.row 3 A cs
end Go.Proofs.Ytolfbmdgkbbnfaa.C
