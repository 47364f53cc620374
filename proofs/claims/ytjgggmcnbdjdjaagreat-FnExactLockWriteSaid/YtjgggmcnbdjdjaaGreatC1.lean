/- What the functions over rows of numbers, and rows of rows, tell: counted, copied in, alike, marked, held. -/
import Derived.Test.YtjgggmcnbdjdjaaGreatA
import Derived.Test.YtjgggmcnbdjdjaaGreatB
import Derived.Test.YtjgggmcnbdjdjaaGreatE
import Derived.Test.YtjgggmcnbdjdjaaGreatF
namespace Go.Proofs.YtjgggmcnbdjdjaaGreat.C
open Go.RowKit Go.Proofs.YtjgggmcnbdjdjaaGreat.K Go.Proofs.YtjgggmcnbdjdjaaGreat.B
attribute [local go_sem] max2_int min2_int max_two min_two i64_and255 i64_and65535 i64_and1
set_option maxRecDepth 20000
set_option linter.unusedVariables false
set_option linter.unusedSimpArgs false
/-- What is left behind n elements more. -/
def szOf (left : Int) (n : Nat) : Int := max (-1) (left - n)
/-- n numbers from k on. -/
def marks : Int → Nat → List Int
  | _, 0 => []
  | k, n + 1 => k :: marks (k + 1) n
theorem marks_length : ∀ (n : Nat) (k : Int), (marks k n).length = n
  | 0, _ => rfl
  | n + 1, k => by simp [marks, marks_length n]
theorem marks_snoc : ∀ (n : Nat) (k : Int), marks k (n + 1) = marks k n ++ [k + n]
  | 0, k => by simp [marks]
  | n + 1, k => by
    rw [marks, marks_snoc n (k + 1), marks, List.cons_append, show k + 1 + (n : Int) = k + ((n + 1 : Nat) : Int) by omega]
theorem marks_at : ∀ (n : Nat) (k : Int) (j : Nat), j < n → (nums (marks k n))[j]? = some (.int .i64 (k + j))
  | 0, _, _, h => by omega
  | n + 1, k, 0, _ => by simp [marks, nums]
  | n + 1, k, j + 1, h => by
    have := marks_at n (k + 1) j (by omega)
    simp only [nums] at this
    simp only [marks, nums, List.map_cons, List.getElem?_cons_succ, this]
    congr 2; omega
/-- The next cell of a row that is being marked. -/
theorem mark_step (cs : List Value) (k x : Int) (m : Nat) (h : m < cs.length) (hx : x = k + m) : (nums (marks k m) ++ cs.drop m).take m ++ [.int .i64 x] ++ (nums (marks k m) ++ cs.drop m).drop (m + 1) = nums (marks k (m + 1)) ++ cs.drop (m + 1) := by
  subst hx
  have hl : (nums (marks k m)).length = m := by rw [nums_length, marks_length]
  rw [List.take_append_of_le_length (by omega), List.take_of_length_le (by omega), marks_snoc, nums_append, nums_one, List.drop_append, List.drop_of_length_le (by omega), hl, List.nil_append, List.drop_drop]
  congr 2
  omega
abbrev rowI (A : Option Addr) (cs : List Value) : Ast := Ast.row 3 A cs
theorem laws_szIntS (A : Option Addr) (c : Nat) (xs : List Int) (left : Int) (w : World) (hx : InI w A c xs) (h0 : -1 ≤ left) (h1 : left ≤ 1048576) :
    Calls Tryz.prog 35 #[.slice A xs.length c, .int .i64 left] w fun e w' => e = .returned (.int .i64 (szOf left xs.length)) ∧ w = w' := by
  have hm := hx.2.1
  by_cases hd : left - xs.length < 0
  all_goals
    go_enter Tryz.func35, Tryz.ntmps35
    go_wp2
    go_ret
    exact ⟨ret_i (by unfold szOf; omega), rfl⟩
set_option maxHeartbeats 2000000 in
theorem laws_markIntS (A : Option Addr) (n c : Nat) (cs : List Value) (k : Int) (w : World) (hx : Hol w [rowI A cs]) (hn : cs.length = n) (hm : n ≤ 9223372036854775807) (h0 : 0 ≤ k) (h1 : k + n ≤ 1000000000000) :
    Calls Tryz.prog 28 #[.slice A n c, .int .i64 k] w fun e w' => e = .returned (.int .i64 (k + (n : Nat))) ∧ St w (rowI A cs).fp w' [rowI A (nums (marks k n))] := by
  have H := hx.st
  simp only [List.flatMap_cons, List.flatMap_nil, List.append_nil] at H
  go_enter Tryz.func28, Tryz.ntmps28
  go_wp2
  go_loopw [1, 5] (fun kk i wr => ∃ j : Nat, j ≤ n ∧ i = .int .i64 j ∧ kk = .int .i64 (k + (j : Nat)) ∧ St w (rowI A cs).fp wr [rowI A (nums (marks k j) ++ cs.drop j)]) (fun _ i _ => n - (intOf i).toNat)
  case atStart => exact ⟨0, Nat.zero_le _, rfl, by simp, by simpa [marks, nums] using H⟩
  case round =>
    clear H
    obtain ⟨j, hj, rfl, rfl, H⟩ := hrel
    by_cases hlt : j < n
    · obtain ⟨g, off, rfl⟩ : ∃ g off, A = some ⟨g, off, none⟩ := by
        have := H.n1
        cases A with
        | none =>
          have h3 : nums (marks k j) ++ cs.drop j = [] := this
          have := congrArg List.length h3
          simp [nums_length, marks_length] at this
          omega
        | some ad => obtain ⟨g, off, spot⟩ := ad; obtain ⟨h3, _⟩ := this; simp only at h3; subst h3; exact ⟨g, off, rfl⟩
      have hw : (1 : Int) ≤ 1000000000000 := by omega
      go_wp2_with ((with_reducible refine g_store rfl ?_); refine' ev_store_row (v := .int _ _) (off := j) H rfl rfl rfl rfl rfl ?_ ?_ ?_ ?_ ?_ ?_ ?_ ?_; rotate_left 6; (focus (repeat (first | (with_reducible exact Pick.here) | (with_reducible apply Pick.there)))); (focus omega); (focus exact szT rfl); (focus rfl); (focus (simp only [List.length_append, List.length_drop, nums_length, marks_length]; omega)); (focus rfl); (focus exact mark_step cs k _ j (by omega) (by omega)); intro W_ H_; (clear H; have H := H_; clear H_))
      go_roundw
      case rel => exact ⟨j + 1, by omega, by go_num, by go_num, H⟩
      case measure => simp [intOf]; omega
    · have hjn : j = n := by omega
      subst hjn
      clear hlt
      go_wp2
      go_ret
      refine ⟨rfl, ?_⟩
      rw [List.drop_of_length_le (by omega), List.append_nil] at H
      exact H
theorem held_one {w : World} {A : Option Addr} {k : Int} {n : Nat} (h : (rowI A (nums (marks k n))).p w) {j : Nat} (hj : j < n) :
    ∃ g off, A = some ⟨g, off, none⟩ ∧ w.cell? ⟨g, off + j, none⟩ = some (.int .i64 (k + j)) := by
  obtain ⟨ad, h1, h2⟩ := (row_in h).at (by rw [nums_length, marks_length]; omega)
  subst h1
  obtain ⟨hs, _⟩ := h
  obtain ⟨g, off, spot⟩ := ad
  simp only at hs
  subst hs
  have := h2 _ _ (marks_at n k j hj)
  rw [Addr.add_mid] at this
  exact ⟨g, off, rfl, this⟩
set_option maxHeartbeats 2000000 in
theorem laws_heldIntS (A : Option Addr) (n c : Nat) (k : Int) (w : World) (hx : (rowI A (nums (marks k n))).p w) (hm : n ≤ 9223372036854775807) (h0 : 0 ≤ k) (h1 : k + n ≤ 1000000000000) :
    Calls Tryz.prog 61 #[.slice A n c, .int .i64 k] w fun e w' => e = .returned (.int .i64 (k + (n : Nat))) ∧ w = w' := by
  go_enter Tryz.func61, Tryz.ntmps61
  go_wp2
  go_loop [1, 5] (fun kk i => ∃ j : Nat, j ≤ n ∧ i = .int .i64 j ∧ kk = .int .i64 (k + (j : Nat))) (fun _ i => n - (intOf i).toNat)
  case atStart => exact ⟨0, Nat.zero_le _, rfl, by simp⟩
  case round =>
    obtain ⟨j, hj, rfl, rfl⟩ := hrel
    by_cases hlt : j < n
    · obtain ⟨g, off, rfl, c0⟩ := held_one hx hlt
      clear hx
      go_wp2_with ((with_reducible refine g_load rfl ?_); refine ev_load_in_one rfl rfl rfl one_int c0 ?_)
      go_round
      case rel => exact ⟨j + 1, by omega, by go_num, by go_num⟩
      case measure => simp [intOf]; omega
    · have hjn : j = n := by omega
      subst hjn
      clear hlt
      go_wp2
      go_ret
      exact ⟨rfl, rfl⟩
end Go.Proofs.YtjgggmcnbdjdjaaGreat.C
