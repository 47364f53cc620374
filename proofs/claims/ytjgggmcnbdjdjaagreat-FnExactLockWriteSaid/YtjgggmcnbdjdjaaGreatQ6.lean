/- The picture unit, as data: what is done to one that is right leaves it right. -/
import Derived.Test.YtjgggmcnbdjdjaaGreatQ2
namespace Go.Proofs.YtjgggmcnbdjdjaaGreat.C
open Go.RowKit Go.Proofs.YtjgggmcnbdjdjaaGreat.K Go.Proofs.YtjgggmcnbdjdjaaGreat.B
set_option maxRecDepth 20000
set_option linter.unusedVariables false
set_option linter.unusedSimpArgs false
theorem xor63 (a b : Int) (h1 : 0 ≤ a) (h2 : a ≤ 63) (h3 : 0 ≤ b) (h4 : b ≤ 63) : 0 ≤ bits .xor .i64 a b ∧ bits .xor .i64 a b ≤ 63 := by
  have key : ∀ x y : Fin 64, 0 ≤ bits .xor .i64 (x.val : Int) (y.val : Int) ∧ bits .xor .i64 (x.val : Int) (y.val : Int) ≤ 63 := by decide +kernel
  have h := key ⟨a.toNat, by omega⟩ ⟨b.toNat, by omega⟩
  simp only [Int.toNat_of_nonneg h1, Int.toNat_of_nonneg h3] at h
  exact h
theorem PpuD.ok_mk {x : PpuD} (h1 : 0 ≤ x.t ∧ x.t ≤ 20000) (h2 : 0 ≤ x.ctrl ∧ x.ctrl ≤ 255) (h3 : 0 ≤ x.scroll ∧ x.scroll ≤ 255) (h4 : 0 ≤ x.addr ∧ x.addr ≤ 15) (h5 : 0 ≤ x.pal ∧ x.pal ≤ 63) (h6 : x.table.length = 16) (h7 : allB 0 63 x.table = true) (h8 : (x.dots.length : Int) = dotsN x.t) (h9 : allB 0 63 x.dots = true) : x.ok = true := by
  unfold PpuD.ok
  simp only [Bool.and_eq_true, inB_iff, beq_iff_eq]
  exact ⟨h1, h2, h3, h4, h5, by omega, h7, h8, h9⟩
theorem allB_set {lo hi : Int} {xs : List Int} (h : allB lo hi xs = true) (k : Nat) {v : Int} (h1 : lo ≤ v) (h2 : v ≤ hi) : allB lo hi (xs.set k v) = true := by
  unfold allB at *
  rw [List.all_eq_true] at *
  intro z hz
  rcases List.mem_or_eq_of_mem_set hz with hz | rfl
  · exact h z hz
  · exact inB_iff.2 ⟨h1, h2⟩
theorem allB_snoc {lo hi : Int} {xs : List Int} (h : allB lo hi xs = true) {v : Int} (h1 : lo ≤ v) (h2 : v ≤ hi) : allB lo hi (xs ++ [v]) = true := by
  unfold allB at *
  rw [List.all_eq_true] at *
  intro z hz
  rcases List.mem_append.1 hz with hz | hz
  · exact h z hz
  · rw [List.mem_singleton.1 hz]; exact inB_iff.2 ⟨h1, h2⟩
theorem PpuD.wr_t (x : PpuD) (r v : Int) : (x.wr r v).t = x.t := by unfold PpuD.wr PpuD.poke; (repeat' split) <;> rfl
theorem PpuD.wr_ok {x : PpuD} (h : x.ok = true) (r v : Int) : (x.wr r v).ok = true := by
  obtain ⟨h1, h2, h3, h4, h5, h6, h7, h8, h9⟩ := PpuD.ok_at h
  unfold PpuD.wr PpuD.poke
  (repeat' split)
  · exact PpuD.ok_mk h1 (by constructor <;> (simp only; omega)) h3 h4 h5 h6 h7 h8 h9
  · exact PpuD.ok_mk h1 h2 (by constructor <;> (simp only; omega)) h4 h5 h6 h7 h8 h9
  · exact PpuD.ok_mk h1 h2 h3 (by constructor <;> (simp only; omega)) h5 h6 h7 h8 h9
  · exact PpuD.ok_mk h1 h2 h3 (by constructor <;> (simp only; omega)) h5 (by simpa using h6) (allB_set h7 _ (by omega) (by omega)) h8 h9
  · exact PpuD.ok_mk h1 h2 h3 h4 (by constructor <;> (simp only; omega)) h6 h7 h8 h9
  · exact h
theorem PpuD.place_lt {x : PpuD} (at_ : Int) : x.place at_ < 16 := by unfold PpuD.place; omega
theorem PpuD.dot_in {x : PpuD} (h : x.ok = true) (at_ : Int) : 0 ≤ x.dot at_ ∧ x.dot at_ ≤ 63 := by
  obtain ⟨h1, h2, h3, h4, h5, h6, h7, h8, h9⟩ := PpuD.ok_at h
  have hp : x.place at_ < x.table.length := by rw [h6]; exact PpuD.place_lt at_
  have := inB_iff.1 (allB_at h7 hp)
  exact xor63 _ _ this.1 this.2 h5.1 h5.2
theorem PpuD.tk_t (x : PpuD) : x.tk.t = x.t + 1 := by unfold PpuD.tk; (repeat' split) <;> rfl
theorem PpuD.tk_ok {x : PpuD} (h : x.ok = true) (ht : x.t < 20000) : x.tk.ok = true := by
  have hd := PpuD.dot_in h (x.t % 64)
  obtain ⟨h1, h2, h3, h4, h5, h6, h7, h8, h9⟩ := PpuD.ok_at h
  unfold dotsN at h8
  unfold PpuD.tk
  (repeat' split)
  · refine PpuD.ok_mk (by constructor <;> (simp only; omega)) h2 h3 h4 h5 h6 h7 ?_ (allB_snoc h9 hd.1 hd.2)
    simp only [List.length_append, List.length_cons, List.length_nil]
    unfold dotsN
    split at h8 <;> split <;> omega
  · refine PpuD.ok_mk (by constructor <;> (simp only; omega)) h2 h3 h4 h5 h6 h7 ?_ rfl
    simp only [List.length_nil]
    unfold dotsN
    split <;> omega
  · refine PpuD.ok_mk (by constructor <;> (simp only; omega)) h2 h3 h4 h5 h6 h7 ?_ h9
    simp only
    unfold dotsN
    split at h8 <;> split <;> omega
  · refine PpuD.ok_mk (by constructor <;> (simp only; omega)) h2 h3 h4 h5 h6 h7 ?_ h9
    simp only
    unfold dotsN
    split at h8 <;> split <;> omega
theorem PpuSmall.ofOk {x : PpuD} (h : x.ok = true) : PpuSmall x := by
  obtain ⟨p1, p2, p3, p4, p5, p6, p7, p8, p9⟩ := PpuD.ok_at h
  refine ⟨by omega, ?_⟩
  unfold dotsN at p8
  split at p8 <;> omega
end Go.Proofs.YtjgggmcnbdjdjaaGreat.C
