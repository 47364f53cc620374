/- What the small functions of the program tell: numbers, times, the sound unit. -/
import Derived.Test.YtjgggmcnbdjdjaaGreatO
import Derived.StillTailTactics
import Derived.Great.BuildSlice
import Derived.Deep.Slices
import Derived.Maps.AppendAt
namespace Go.Proofs.YtjgggmcnbdjdjaaGreat.B
open Go.RowKit Go.Proofs.YtjgggmcnbdjdjaaGreat.K
attribute [local go_sem] max2_int min2_int max_two min_two i64_and255 i64_and65535 i64_and1
set_option maxRecDepth 20000
set_option linter.unusedVariables false
set_option linter.unusedSimpArgs false

/-! ## numbers -/
theorem impl_within (n lo hi : Int) (w : World) : Calls Tryz.prog 123 #[.int .i64 n, .int .i64 lo, .int .i64 hi] w fun e w' => e = .returned (.bool (inB n lo hi)) ∧ w = w' := by
  go_enter Tryz.func123, Tryz.ntmps123
  go_wp2
  all_goals (go_ret; first | exact ⟨ret_b (inB_le (by assumption)).symm, rfl⟩ | exact ⟨ret_b (inB_ge (by assumption)).symm, rfl⟩)
theorem spec_l1In (n lo hi : Int) (w : World) : Calls Tryz.prog 107 #[.int .i64 n, .int .i64 lo, .int .i64 hi] w fun e w' => e = .returned (.bool (inB n lo hi)) ∧ w = w' := by
  go_enter Tryz.func107, Tryz.ntmps107
  go_wp2
  all_goals (go_ret; first | exact ⟨ret_b (inB_le (by assumption)).symm, rfl⟩ | exact ⟨ret_b (inB_ge (by assumption)).symm, rfl⟩)
theorem impl_isTime (n : Int) (w : World) : Calls Tryz.prog 156 #[.int .i64 n] w fun e w' => e = .returned (.bool (inB n 0 20000)) ∧ w = w' := by
  go_enter Tryz.func156, Tryz.ntmps156
  go_wp2_with (go_at_call 123; (with_reducible refine (impl_within _ _ _ _).mono ?_); rintro e w1 ⟨rfl, rfl⟩)
  go_ret; exact ⟨rfl, rfl⟩
theorem impl_isByte (n : Int) (w : World) : Calls Tryz.prog 122 #[.int .i64 n] w fun e w' => e = .returned (.bool (inB n 0 255)) ∧ w = w' := by
  go_enter Tryz.func122, Tryz.ntmps122
  go_wp2_with (go_at_call 123; (with_reducible refine (impl_within _ _ _ _).mono ?_); rintro e w1 ⟨rfl, rfl⟩)
  go_ret; exact ⟨rfl, rfl⟩
theorem spec_l5Byte (n : Int) (w : World) : Calls Tryz.prog 106 #[.int .i64 n] w fun e w' => e = .returned (.bool (inB n 0 255)) ∧ w = w' := by
  go_enter Tryz.func106, Tryz.ntmps106
  go_wp2_with (go_at_call 107; (with_reducible refine (spec_l1In _ _ _ _).mono ?_); rintro e w1 ⟨rfl, rfl⟩)
  go_ret; exact ⟨rfl, rfl⟩
theorem impl_flag (b : Bool) (w : World) : Calls Tryz.prog 188 #[.bool b] w fun e w' => e = .returned (.int .i64 (if b = true then 1 else 0)) ∧ w = w' := by
  go_enter Tryz.func188, Tryz.ntmps188
  go_wp2
  all_goals (go_ret; exact ⟨ret_i (by simp [*]), rfl⟩)
theorem spec_l1Bit (b : Bool) (w : World) : Calls Tryz.prog 181 #[.bool b] w fun e w' => e = .returned (.int .i64 (if b = true then 1 else 0)) ∧ w = w' := by
  go_enter Tryz.func181, Tryz.ntmps181
  go_wp2
  all_goals (go_ret; exact ⟨ret_i (by simp [*]), rfl⟩)
theorem impl_Byte (n : Int) (w : World) : Calls Tryz.prog 192 #[.int .i64 n] w fun e w' => e = .returned (.int .i64 (n % 256)) ∧ w = w' := by
  go_enter Tryz.func192, Tryz.ntmps192
  go_wp2
  go_ret
  exact ⟨rfl, rfl⟩
theorem spec_Byte (n : Int) (w : World) : Calls Tryz.prog 191 #[.int .i64 n] w fun e w' => e = .returned (.int .i64 (n % 256)) ∧ w = w' := by
  go_enter Tryz.func191, Tryz.ntmps191
  go_wp2
  go_ret
  exact ⟨rfl, rfl⟩
/-- The greater, the smaller of two. -/
def gr (a b : Int) : Int := if b < a then a else b
def le (a b : Int) : Int := if a < b then a else b
theorem spec_l1Max (a b : Int) (w : World) : Calls Tryz.prog 234 #[.int .i64 a, .int .i64 b] w fun e w' => e = .returned (.int .i64 (gr a b)) ∧ w = w' := by
  go_enter Tryz.func234, Tryz.ntmps234
  go_wp2
  all_goals (go_ret; exact ⟨ret_i (by unfold gr; split <;> omega), rfl⟩)
/-! ## times -/
/-- The frame of a time. -/
def frm (t : Int) : Int := (if t < 0 then 0 else t) / 64
theorem frm_0 (t : Int) : 0 ≤ frm t := by unfold frm; split <;> omega
theorem frm_gr (t : Int) : gr t 0 / 64 = frm t := by unfold gr frm; congr 1; split <;> split <;> omega
/-- t as a time: 0 at least, 20000 at most. -/
def tim (a : Int) : Int := if a < 0 then 0 else if 20000 < a then 20000 else a
theorem impl_FrameOf (t : Int) (w : World) (ht : t ≤ 9223372036854775807) : Calls Tryz.prog 217 #[.int .i64 t] w fun e w' => e = .returned (.int .i64 (frm t)) ∧ w = w' := by
  obtain ⟨m, hm⟩ : ∃ m, (if t < 0 then 0 else t) = m := ⟨_, rfl⟩
  have h1 : 0 ≤ m := by rw [← hm]; split <;> omega
  have h2 : m ≤ 9223372036854775807 := by rw [← hm]; split <;> omega
  have hf : frm t = m / 64 := by rw [frm, hm]
  rw [hf]
  clear hf
  go_enter Tryz.func217, Tryz.ntmps217
  go_wp2
  go_ret
  exact ⟨rfl, rfl⟩
theorem spec_FrameOf (t : Int) (w : World) (ht : t ≤ 9223372036854775807) : Calls Tryz.prog 216 #[.int .i64 t] w fun e w' => e = .returned (.int .i64 (frm t)) ∧ w = w' := by
  have h1 : 0 ≤ gr t 0 := by unfold gr; split <;> omega
  have h2 : gr t 0 ≤ 9223372036854775807 := by unfold gr; split <;> omega
  rw [← frm_gr]
  go_enter Tryz.func216, Tryz.ntmps216
  go_wp2_with (go_at_call 234; (with_reducible refine (spec_l1Max _ _ _).mono ?_); rintro e w1 ⟨rfl, rfl⟩)
  go_ret
  exact ⟨rfl, rfl⟩
theorem impl_cyclesAhead (t r p : Int) (w : World) (h0 : 0 ≤ t) (h1 : t ≤ 20000) (h2 : 0 ≤ r) (h3 : r < p) (h4 : p ≤ 64) :
    Calls Tryz.prog 186 #[.int .i64 t, .int .i64 r, .int .i64 p] w fun e w' => e = .returned (.int .i64 ((t + p - 1 - r) / p)) ∧ w = w' := by
  have h5 : 0 ≤ t + p := by omega
  have h6 : 0 ≤ t + p - 1 := by omega
  have h7 : 0 ≤ t + p - 1 - r := by omega
  have h8 : (p == 0) = false := by simp; omega
  have h9 : 0 < p := by omega
  have h10 : ¬ p = 0 := by omega
  go_enter Tryz.func186, Tryz.ntmps186
  go_wp2
  go_ret
  exact ⟨rfl, rfl⟩
/-- Is there a cycle from a on, ahead of b, that is r by p? (a, b: times) -/
def cyc (a b r p : Int) : Bool := decide ((tim a + p - 1 - r) / p < (tim b + p - 1 - r) / p)
structure ApuD where (t p c b l : Int) (k i : Bool)
def ApuD.ok (a : ApuD) : Bool := inB a.t 0 20000 && inB a.p 0 255 && inB a.c 0 255 && inB a.b 0 1 && inB a.l 0 31
theorem ApuD.ok_iff (a : ApuD) : a.ok = true ↔ 0 ≤ a.t ∧ a.t ≤ 20000 ∧ 0 ≤ a.p ∧ a.p ≤ 255 ∧ 0 ≤ a.c ∧ a.c ≤ 255 ∧ 0 ≤ a.b ∧ a.b ≤ 1 ∧ 0 ≤ a.l ∧ a.l ≤ 31 := by
  simp only [ApuD.ok, Bool.and_eq_true, inB_iff, and_assoc]
def ApuD.zero : ApuD := ⟨0, 0, 0, 0, 0, false, false⟩
def ApuD.write (a : ApuD) (r v : Int) : ApuD :=
  if a.ok = true then
    if r = 0 then { a with p := v % 256 }
    else if r = 1 then { a with l := v % 32 }
    else if r = 2 then { a with k := (v % 2 == 1), i := a.i && (v % 2 == 1) }
    else if r = 3 then { a with i := false }
    else a
  else a
def ApuD.read (a : ApuD) (r : Int) : ApuD := if r = 2 ∧ a.ok = true then { a with i := false } else a
def ApuD.says (a : ApuD) (r : Int) : Int := if r = 2 ∧ a.ok = true then 128 * (if a.i = true then 1 else 0) + (if 0 < a.l then 1 else 0) else 0
/-- A cycle. -/
def ApuD.beat (a : ApuD) : Bool := decide (a.t % 32 = 0 ∧ 0 < a.l)
def ApuD.loud (a : ApuD) : Bool := decide (0 < a.l)
def ApuD.out (a : ApuD) : Bool := decide (a.l - 1 = 0)
def ApuD.tk (a : ApuD) : ApuD :=
  { t := a.t + 1, p := a.p, c := if a.c = 0 then a.p else a.c - 1, b := if a.c = 0 then (if a.loud = true then 1 - a.b else a.b) else a.b
    l := if a.beat = true then a.l - 1 else a.l, k := a.k
    i := if a.beat = true then (if a.i = true then true else if a.out = true then a.k else false) else a.i }
theorem ApuD.loud_t {a : ApuD} (h : a.loud = true) : 0 < a.l := by simpa [ApuD.loud] using h
theorem ApuD.loud_f {a : ApuD} (h : a.loud = false) : ¬ 0 < a.l := by simpa [ApuD.loud] using h
theorem ApuD.out_t {a : ApuD} (h : a.out = true) : a.l - 1 = 0 := by simpa [ApuD.out] using h
theorem ApuD.out_f {a : ApuD} (h : a.out = false) : ¬ a.l - 1 = 0 := by simpa [ApuD.out] using h
theorem ApuD.beat_t {a : ApuD} (h : a.beat = true) : a.t % 32 = 0 ∧ 0 < a.l := by simpa [ApuD.beat] using h
def ApuD.told (a : ApuD) : Bool := a.t % 16 == 15
def ApuD.smp (a : ApuD) : Int := if a.t % 16 = 15 ∧ 0 < a.tk.l then 8 * a.tk.b else 0
def ApuD.tick (a : ApuD) : ApuD := if a.ok = true then (if a.t = 20000 then a else a.tk) else ApuD.zero
def ApuD.tickN (a : ApuD) : Int := if a.ok = true then (if a.t = 20000 then 0 else a.smp) else 0
def ApuD.tickB (a : ApuD) : Bool := if a.ok = true then (if a.t = 20000 then false else a.told) else false
theorem laws_toApu (a : ApuD) (w : World) : Calls Tryz.prog 45 #[.agg #[.int .i64 a.t, .int .i64 a.p, .int .i64 a.c, .int .i64 a.b, .int .i64 a.l, .bool a.k, .bool a.i]] w fun e w' => e = .returned (.agg #[.int .i64 a.t, .int .i64 a.p, .int .i64 a.c, .int .i64 a.b, .int .i64 a.l, .bool a.k, .bool a.i]) ∧ Below w.heap.size w w' := by
  have H := St.nil w []
  go_enter Tryz.func45, Tryz.ntmps45
  go_wp2_with (first | ((with_reducible refine g_box rfl ?_); refine eBa H ?_; clear H; intro g_ W_ H) | ((with_reducible refine g_alloc rfl ?_); refine eNw H ?_; clear H; intro g_ W_ H) | ((with_reducible refine g_load rfl ?_); first | refine eL1 H ?_ | refine eLa H ?_) | ((with_reducible refine g_store rfl ?_); (first | refine eSi H ?_ | refine eSb H ?_ | refine eSa H ?_); clear H; intro W_ H))
  refine' back1 Tryz.results45 ?_ rfl ⟨?_, H.below⟩; rotate_left 1; exact rvA
  rfl
theorem laws_eqApu (a : ApuD) (w : World) : Calls Tryz.prog 54 #[.agg #[.int .i64 a.t, .int .i64 a.p, .int .i64 a.c, .int .i64 a.b, .int .i64 a.l, .bool a.k, .bool a.i], .agg #[.int .i64 a.t, .int .i64 a.p, .int .i64 a.c, .int .i64 a.b, .int .i64 a.l, .bool a.k, .bool a.i]] w fun e w' => e = .returned (.bool true) ∧ Below w.heap.size w w' := by
  have H := St.nil w []
  go_enter Tryz.func54, Tryz.ntmps54
  go_wp2_with (first | ((with_reducible refine g_box rfl ?_); refine eBa H ?_; clear H; intro g_ W_ H) | ((with_reducible refine g_load rfl ?_); refine eL1 H ?_))
  all_goals (go_ret; exact ⟨rfl, H.below⟩)
theorem impl_ApuOk (a : ApuD) (w : World) : Calls Tryz.prog 121 #[.agg #[.int .i64 a.t, .int .i64 a.p, .int .i64 a.c, .int .i64 a.b, .int .i64 a.l, .bool a.k, .bool a.i]] w fun e w' => e = .returned (.bool a.ok) ∧ Below w.heap.size w w' := by
  go_enter Tryz.func121, Tryz.ntmps121
  go_wp2_with (first | (go_at_call 156; (with_reducible refine (impl_isTime _ _).mono ?_); rintro e w1 ⟨rfl, rfl⟩) | (go_at_call 122; (with_reducible refine (impl_isByte _ _).mono ?_); rintro e w1 ⟨rfl, rfl⟩) | (go_at_call 123; (with_reducible refine (impl_within _ _ _ _).mono ?_); rintro e w1 ⟨rfl, rfl⟩))
  all_goals (go_ret; exact ⟨ret_b (by simp [ApuD.ok, *]), by repeat (first | exact Below.refl _ _ | apply bA | apply bD | apply bd)⟩)
theorem spec_ApuOk (a : ApuD) (w : World) : Calls Tryz.prog 105 #[.agg #[.int .i64 a.t, .int .i64 a.p, .int .i64 a.c, .int .i64 a.b, .int .i64 a.l, .bool a.k, .bool a.i]] w fun e w' => e = .returned (.bool a.ok) ∧ Below w.heap.size w w' := by
  go_enter Tryz.func105, Tryz.ntmps105
  go_wp2_with (first | (go_at_call 106; (with_reducible refine (spec_l5Byte _ _).mono ?_); rintro e w1 ⟨rfl, rfl⟩) | (go_at_call 107; (with_reducible refine (spec_l1In _ _ _ _).mono ?_); rintro e w1 ⟨rfl, rfl⟩))
  all_goals (go_ret; exact ⟨ret_b (by simp [ApuD.ok, *]), by repeat (first | exact Below.refl _ _ | apply bA | apply bD | apply bd)⟩)
set_option maxHeartbeats 1000000 in
theorem impl_ApuWrite (a : ApuD) (r v : Int) (w : World) : Calls Tryz.prog 137 #[.agg #[.int .i64 a.t, .int .i64 a.p, .int .i64 a.c, .int .i64 a.b, .int .i64 a.l, .bool a.k, .bool a.i], .int .i64 r, .int .i64 v] w fun e w' => e = .returned (.agg #[.int .i64 (a.write r v).t, .int .i64 (a.write r v).p, .int .i64 (a.write r v).c, .int .i64 (a.write r v).b, .int .i64 (a.write r v).l, .bool (a.write r v).k, .bool (a.write r v).i]) ∧ Below w.heap.size w w' := by
  have H := St.nil w []
  go_enter Tryz.func137, Tryz.ntmps137
  go_wp2_with (first | ((with_reducible refine g_box rfl ?_); refine eBa H ?_; clear H; intro g_ W_ H) | ((with_reducible refine g_alloc rfl ?_); refine eNw H ?_; clear H; intro g_ W_ H) | ((with_reducible refine g_load rfl ?_); first | refine eL1 H ?_ | refine eLa H ?_) | ((with_reducible refine g_store rfl ?_); (first | refine eSi H ?_ | refine eSb H ?_ | refine eSa H ?_); clear H; intro W_ H) | (go_at_call 121; (with_reducible refine (impl_ApuOk a _).mono ?_); rintro e w1 ⟨rfl, hb⟩; (replace H := H.callB hb; clear hb)) | (go_at_call 192; (with_reducible refine (impl_Byte _ _).mono ?_); rintro e w1 ⟨rfl, rfl⟩))
  all_goals (refine' back1 Tryz.results137 ?_ rfl ⟨?_, H.below⟩; rotate_left 1; exact rvA; clear H; simp_all [ApuD.write])
set_option maxHeartbeats 1000000 in
theorem spec_ApuWrite (a : ApuD) (r v : Int) (w : World) : Calls Tryz.prog 133 #[.agg #[.int .i64 a.t, .int .i64 a.p, .int .i64 a.c, .int .i64 a.b, .int .i64 a.l, .bool a.k, .bool a.i], .int .i64 r, .int .i64 v] w fun e w' => e = .returned (.agg #[.int .i64 (a.write r v).t, .int .i64 (a.write r v).p, .int .i64 (a.write r v).c, .int .i64 (a.write r v).b, .int .i64 (a.write r v).l, .bool (a.write r v).k, .bool (a.write r v).i]) ∧ Below w.heap.size w w' := by
  have H := St.nil w []
  go_enter Tryz.func133, Tryz.ntmps133
  go_wp2_with (first | ((with_reducible refine g_box rfl ?_); refine eBa H ?_; clear H; intro g_ W_ H) | ((with_reducible refine g_alloc rfl ?_); refine eNw H ?_; clear H; intro g_ W_ H) | ((with_reducible refine g_load rfl ?_); first | refine eL1 H ?_ | refine eLa H ?_) | ((with_reducible refine g_store rfl ?_); (first | refine eSi H ?_ | refine eSb H ?_ | refine eSa H ?_); clear H; intro W_ H) | (go_at_call 105; (with_reducible refine (spec_ApuOk a _).mono ?_); rintro e w1 ⟨rfl, hb⟩; (replace H := H.callB hb; clear hb)) | (go_at_call 191; (with_reducible refine (spec_Byte _ _).mono ?_); rintro e w1 ⟨rfl, rfl⟩))
  all_goals (refine' back1 Tryz.results133 ?_ rfl ⟨?_, H.below⟩; rotate_left 1; exact rvA; clear H; simp_all [ApuD.write])
set_option maxHeartbeats 2000000 in
theorem impl_ApuRead (a : ApuD) (r : Int) (w : World) : Calls Tryz.prog 128 #[.agg #[.int .i64 a.t, .int .i64 a.p, .int .i64 a.c, .int .i64 a.b, .int .i64 a.l, .bool a.k, .bool a.i], .int .i64 r] w fun e w' => e = .returned (.tuple #[.agg #[.int .i64 (a.read r).t, .int .i64 (a.read r).p, .int .i64 (a.read r).c, .int .i64 (a.read r).b, .int .i64 (a.read r).l, .bool (a.read r).k, .bool (a.read r).i], .int .i64 (a.says r)]) ∧ Below w.heap.size w w' := by
  have H := St.nil w []
  have h2 : (r = 2 ∧ a.ok = true) ∨ ((r == 2) = false ∧ (r != 2) = true ∧ a.ok = true) ∨ ((r == 2) = false ∧ (r != 2) = true ∧ a.ok = false) ∨ (r = 2 ∧ a.ok = false) := by
    by_cases h : r = 2 <;> cases a.ok <;> simp [h]
  rcases h2 with ⟨rfl, hok⟩ | ⟨h1, h2, hok⟩ | ⟨h1, h2, hok⟩ | ⟨rfl, hok⟩
  all_goals
    go_enter Tryz.func128, Tryz.ntmps128
    go_wp2_with (first | ((with_reducible refine g_box rfl ?_); refine eBa H ?_; clear H; intro g_ W_ H) | ((with_reducible refine g_alloc rfl ?_); refine eNw H ?_; clear H; intro g_ W_ H) | ((with_reducible refine g_load rfl ?_); first | refine eL1 H ?_ | refine eLa H ?_) | ((with_reducible refine g_store rfl ?_); (first | refine eSb H ?_ | refine eSa H ?_); clear H; intro W_ H) | (go_at_call 121; (with_reducible refine (impl_ApuOk a _).mono ?_); rintro e w1 ⟨rfl, hb⟩; (replace H := H.callB hb; clear hb)) | ((with_reducible refine g_draw ?_); (try (have q1 := cells_of H.n1; simp only [cellsAll, Nat.reduceAdd, Nat.zero_add, and_true] at q1)); (try (have q2 := cells_of H.n2; simp only [cellsAll, Nat.reduceAdd, Nat.zero_add, and_true] at q2)); (try (have q3 := cells_of H.n3; simp only [cellsAll, Nat.reduceAdd, Nat.zero_add, and_true] at q3)); (try (have q4 := cells_of H.n4; simp only [cellsAll, Nat.reduceAdd, Nat.zero_add, and_true] at q4)); go_quiet ((go_at_call 188; exact Calls.quiet_of_same (q_of (impl_flag _ _)))); (try clear q1); (try clear q2); (try clear q3); (try clear q4); (have H_ := H.drewN nq; (clear H; have H := H_; clear H_))))
    all_goals (refine' back2 Tryz.results128 ?_ ?_ rfl ⟨?_, H.below⟩; rotate_left 2; exact rvA; exact rvA; clear H; simp_all [ApuD.read, ApuD.says])
    all_goals omega
set_option maxHeartbeats 2000000 in
theorem spec_ApuRead (a : ApuD) (r : Int) (w : World) : Calls Tryz.prog 111 #[.agg #[.int .i64 a.t, .int .i64 a.p, .int .i64 a.c, .int .i64 a.b, .int .i64 a.l, .bool a.k, .bool a.i], .int .i64 r] w fun e w' => e = .returned (.tuple #[.agg #[.int .i64 (a.read r).t, .int .i64 (a.read r).p, .int .i64 (a.read r).c, .int .i64 (a.read r).b, .int .i64 (a.read r).l, .bool (a.read r).k, .bool (a.read r).i], .int .i64 (a.says r)]) ∧ Below w.heap.size w w' := by
  have H := St.nil w []
  have h2 : (r = 2 ∧ a.ok = true) ∨ ((r == 2) = false ∧ (r != 2) = true ∧ a.ok = true) ∨ ((r == 2) = false ∧ (r != 2) = true ∧ a.ok = false) ∨ (r = 2 ∧ a.ok = false) := by
    by_cases h : r = 2 <;> cases a.ok <;> simp [h]
  rcases h2 with ⟨rfl, hok⟩ | ⟨h1, h2, hok⟩ | ⟨h1, h2, hok⟩ | ⟨rfl, hok⟩
  all_goals
    go_enter Tryz.func111, Tryz.ntmps111
    go_wp2_with (first | ((with_reducible refine g_box rfl ?_); refine eBa H ?_; clear H; intro g_ W_ H) | ((with_reducible refine g_alloc rfl ?_); refine eNw H ?_; clear H; intro g_ W_ H) | ((with_reducible refine g_load rfl ?_); first | refine eL1 H ?_ | refine eLa H ?_) | ((with_reducible refine g_store rfl ?_); (first | refine eSb H ?_ | refine eSa H ?_); clear H; intro W_ H) | (go_at_call 105; (with_reducible refine (spec_ApuOk a _).mono ?_); rintro e w1 ⟨rfl, hb⟩; (replace H := H.callB hb; clear hb)) | ((with_reducible refine g_draw ?_); (try (have q1 := cells_of H.n1; simp only [cellsAll, Nat.reduceAdd, Nat.zero_add, and_true] at q1)); (try (have q2 := cells_of H.n2; simp only [cellsAll, Nat.reduceAdd, Nat.zero_add, and_true] at q2)); (try (have q3 := cells_of H.n3; simp only [cellsAll, Nat.reduceAdd, Nat.zero_add, and_true] at q3)); (try (have q4 := cells_of H.n4; simp only [cellsAll, Nat.reduceAdd, Nat.zero_add, and_true] at q4)); go_quiet ((go_at_call 181; exact Calls.quiet_of_same (q_of (spec_l1Bit _ _)))); (try clear q1); (try clear q2); (try clear q3); (try clear q4); (have H_ := H.drewN nq; (clear H; have H := H_; clear H_))))
    all_goals (refine' back2 Tryz.results111 ?_ ?_ rfl ⟨?_, H.below⟩; rotate_left 2; exact rvA; exact rvA; clear H; simp_all [ApuD.read, ApuD.says])
    all_goals omega
end Go.Proofs.YtjgggmcnbdjdjaaGreat.B

/- What the functions over rows of whole numbers tell: bytes, pads, copies, whether two are alike. -/
namespace Go.Proofs.YtjgggmcnbdjdjaaGreat.B
open Go.RowKit Go.Proofs.YtjgggmcnbdjdjaaGreat.K
attribute [local go_sem] max2_int min2_int max_two min_two i64_and255 i64_and65535 i64_and1
set_option maxRecDepth 20000
set_option linter.unusedVariables false
set_option linter.unusedSimpArgs false
/-- All numbers are in a range. -/
def allB (lo hi : Int) (xs : List Int) : Bool := xs.all fun n => inB n lo hi
theorem allB_at {lo hi : Int} {xs : List Int} (h : allB lo hi xs = true) {k : Nat} (hk : k < xs.length) : inB (rd xs k) lo hi = true := by
  have := List.all_eq_true.1 h xs[k] (List.getElem_mem hk)
  simpa [rd_at hk] using this
theorem allB_no {lo hi : Int} {xs : List Int} {k : Nat} (hk : k < xs.length) (h : ¬ inB (rd xs k) lo hi = true) : allB lo hi xs = false := by
  cases e : allB lo hi xs with
  | false => rfl
  | true => exact absurd (allB_at e hk) h
theorem allB_yes {lo hi : Int} {xs : List Int} (h : ∀ k, k < xs.length → inB (rd xs k) lo hi = true) : allB lo hi xs = true := by
  refine List.all_eq_true.2 fun x hx => ?_
  obtain ⟨k, hk, rfl⟩ := List.getElem_of_mem hx
  simpa [rd_at hk] using h k hk
theorem impl_bytesOk (A : Option Addr) (c : Nat) (xs : List Int) (w : World) (hx : InI w A c xs) : Calls Tryz.prog 184 #[.slice A xs.length c] w fun e w' => e = .returned (.bool (allB 0 255 xs)) ∧ w = w' := by
  have hm := hx.2.1
  go_enter Tryz.func184, Tryz.ntmps184
  go_wp2
  go_loop [7] (fun i => ∃ k : Nat, k ≤ xs.length ∧ i = .int .i64 k ∧ Hid (∀ j, j < k → inB (rd xs j) 0 255 = true)) (fun i => xs.length - (intOf i).toNat)
  case atStart => exact ⟨0, Nat.zero_le _, rfl, fun j hj => absurd hj (Nat.not_lt_zero _)⟩
  case round =>
    obtain ⟨k, hk, rfl, HA⟩ := hrel
    by_cases hlt : k < xs.length
    · obtain ⟨ad, rfl, hc⟩ := hx.cell (St.nil w []) hlt
      clear hx
      by_cases hb : inB (rd xs k) 0 255 = true
      · go_wp2_with (go_at_call 122; (with_reducible refine (impl_isByte _ _).mono ?_); rintro e w1 ⟨rfl, rfl⟩)
        go_round
        case rel => exact ⟨k + 1, by omega, by go_num, fun j hj => if e : j = k then by rw [e]; exact hb else HA.out j (by omega)⟩
        case measure => simp [intOf]; omega
      · go_wp2_with (go_at_call 122; (with_reducible refine (impl_isByte _ _).mono ?_); rintro e w1 ⟨rfl, rfl⟩)
        go_ret
        exact ⟨ret_b (allB_no hlt hb).symm, rfl⟩
    · go_wp2
      go_ret
      exact ⟨ret_b (allB_yes fun j hj => HA.out j (by omega)).symm, rfl⟩
def padsB (xs : List Int) : Bool := decide (xs.length ≤ 20) && allB 0 255 xs
theorem impl_PadsOk (A : Option Addr) (c : Nat) (xs : List Int) (w : World) (hx : InI w A c xs) : Calls Tryz.prog 118 #[.slice A xs.length c] w fun e w' => e = .returned (.bool (padsB xs)) ∧ w = w' := by
  have hm := hx.2.1
  have h0 : (decide (xs.length ≤ 20) = true ∧ xs.length ≤ 20) ∨ (decide (xs.length ≤ 20) = false ∧ ¬ xs.length ≤ 20) := by by_cases h : xs.length ≤ 20 <;> simp [h]
  rcases h0 with ⟨h0, h1⟩ | ⟨h0, h1⟩
  all_goals
    go_enter Tryz.func118, Tryz.ntmps118
    go_wp2_with (go_at_call 184; (with_reducible refine (impl_bytesOk _ _ _ _ hx).mono ?_); rintro e w1 ⟨rfl, rfl⟩)
    go_ret
    exact ⟨ret_b (by simp [padsB, *]), rfl⟩
theorem spec_PadsOk (A : Option Addr) (c : Nat) (xs : List Int) (w : World) (hx : InI w A c xs) : Calls Tryz.prog 101 #[.slice A xs.length c] w fun e w' => e = .returned (.bool (padsB xs)) ∧ w = w' := by
  have hm := hx.2.1
  go_enter Tryz.func101, Tryz.ntmps101
  go_wp2
  go_loop [3] (fun i => ∃ k : Nat, k ≤ xs.length ∧ i = .int .i64 k ∧ Hid (∀ j, j < k → inB (rd xs j) 0 255 = true)) (fun i => xs.length - (intOf i).toNat)
  case atStart => exact ⟨0, Nat.zero_le _, rfl, fun j hj => absurd hj (Nat.not_lt_zero _)⟩
  case round =>
    obtain ⟨k, hk, rfl, HA⟩ := hrel
    by_cases hlt : k < xs.length
    · obtain ⟨ad, rfl, hc⟩ := hx.cell (St.nil w []) hlt
      clear hx
      by_cases hb : inB (rd xs k) 0 255 = true
      · go_wp2_with (go_at_call 106; (with_reducible refine (spec_l5Byte _ _).mono ?_); rintro e w1 ⟨rfl, rfl⟩)
        go_round
        case rel => exact ⟨k + 1, by omega, by go_num, fun j hj => if e : j = k then by rw [e]; exact hb else HA.out j (by omega)⟩
        case measure => simp [intOf]; omega
      · go_wp2_with (go_at_call 106; (with_reducible refine (spec_l5Byte _ _).mono ?_); rintro e w1 ⟨rfl, rfl⟩)
        go_ret
        exact ⟨ret_b (by simp [padsB, allB_no hlt hb]), rfl⟩
    · go_wp2
      go_ret
      exact ⟨ret_b (by simp [padsB, allB_yes fun j hj => HA.out j (by omega)]; try omega), rfl⟩
set_option maxHeartbeats 1000000 in
theorem laws_toIntS (A : Option Addr) (c : Nat) (xs : List Int) (w : World) (hx : InI w A c xs) (hs : xs.length ≤ 1048576) :
    Calls Tryz.prog 22 #[.slice A xs.length c] w fun e w' => ∃ g, e = .returned (.slice (some ⟨g, 0, none⟩) xs.length xs.length) ∧ St w [] w' [Ast.ints (some ⟨g, 0, none⟩) xs.length xs] := by
  have H := St.nil w []
  have hm := hx.2.1
  go_enter Tryz.func22, Tryz.ntmps22
  go_wp2_with ((with_reducible refine g_make rfl ?_); refine ev_make H rfl rfl Tryz.underlying25 info_int rfl rfl rfl rfl (by omega) (by omega) ?_; intro g_ W_ H_; rw [made_nums] at H_; (clear H; have H := H_; clear H_))
  go_loopw [4] (fun i wr => ∃ (k : Nat) (cur : List Int), k ≤ xs.length ∧ i = .int .i64 k ∧ cur.length = xs.length ∧ Hid (∀ j, j < k → rd cur j = rd xs j) ∧ St w [] wr [Ast.own 3 1 (some ⟨g_, 0, none⟩) xs.length xs.length (nums cur)]) (fun i _ => xs.length - (intOf i).toNat)
  case atStart => exact ⟨0, _, Nat.zero_le _, rfl, by simp, fun j hj => absurd hj (Nat.not_lt_zero _), H⟩
  case round =>
    clear H
    obtain ⟨k, cur, hk, rfl, hl, HA, H⟩ := hrel
    have HL := Lib.hid hl
    by_cases hlt : k < xs.length
    · obtain ⟨ad, rfl, hc⟩ := hx.cell H hlt
      clear hx hl
      go_wp2_with ((with_reducible refine g_store rfl ?_); refine' ev_store_own (v := .int _ _) H rfl rfl rfl rfl rfl ?_ ?_ ?_ ?_ ?_ ?_ ?_; rotate_left 8; (focus exact pkA); (focus exact szT rfl); (focus rfl); (focus (rw [nums_length, HL.out]; exact hlt)); (focus rfl); (focus exact nums_set cur k _ (by rw [HL.out]; exact hlt)); intro W_ H_; (clear H; have H := H_; clear H_))
      go_roundw
      case rel => exact ⟨k + 1, cur.set k (rd xs k), by omega, by go_num, by rw [List.length_set]; exact HL.out, fun j hj => if e : j = k then by rw [e]; simp [rd, HL.out, hlt] else by have := HA.out j (by omega); simpa [rd, List.getD_eq_getElem?_getD, List.getElem?_set, Ne.symm e] using this, H⟩
      case measure => simp [intOf]; omega
    · go_wp2
      go_ret
      have he : cur = xs := rd_ext HL.out fun j hj => HA.out j (by have := HL.out; omega)
      subst he
      exact ⟨_, rfl, H⟩
/-- Two rows that are alike. -/
theorem laws_eqIntS (A B : Option Addr) (c d : Nat) (xs : List Int) (w : World) (hx : InI w A c xs) (hy : InI w B d xs) :
    Calls Tryz.prog 26 #[.slice A xs.length c, .slice B xs.length d] w fun e w' => e = .returned (.bool true) ∧ St w [] w' [] := by
  have H := St.nil w []
  have hm := hx.2.1
  go_enter Tryz.func26, Tryz.ntmps26
  go_wp2
  go_loopw [5] (fun i wr => ∃ k : Nat, k ≤ xs.length ∧ i = .int .i64 k ∧ St w [] wr []) (fun i _ => xs.length - (intOf i).toNat)
  case atStart => exact ⟨0, Nat.zero_le _, rfl, H⟩
  case round =>
    clear H
    obtain ⟨k, hk, rfl, H⟩ := hrel
    by_cases hlt : k < xs.length
    · obtain ⟨ad, rfl, hc⟩ := hx.cell H hlt
      obtain ⟨ae, rfl, hd⟩ := hy.cell H hlt
      clear hx hy
      have hl1 : (k : Int) < (xs.length : Int) := by omega
      go_wp2
      go_quiet (fail)
      have H_ := H.drewN nq
      (clear H; have H := H_; clear H_)
      go_wp2
      go_roundw
      case rel => exact ⟨k + 1, by omega, by go_num, H⟩
      case measure => simp [intOf]; omega
    · go_wp2
      go_ret
      exact ⟨rfl, H⟩
/-- What is pressed at a time. -/
def padAt (xs : List Int) (t : Int) : Int := if padsB xs = true ∧ ¬ xs.length = 0 then rd xs (frm t % (xs.length : Int)).toNat else 0
set_option maxHeartbeats 1000000 in
theorem impl_PadAt (A : Option Addr) (c : Nat) (xs : List Int) (t : Int) (w : World) (hx : InI w A c xs) (ht : t ≤ 9223372036854775807) : Calls Tryz.prog 190 #[.slice A xs.length c, .int .i64 t] w fun e w' => e = .returned (.int .i64 (padAt xs t)) ∧ w = w' := by
  have hm := hx.2.1
  cases hp : padsB xs
  · have e0 : padAt xs t = 0 := by simp [padAt, hp]
    rw [e0]
    clear e0
    go_enter Tryz.func190, Tryz.ntmps190
    go_wp2_with (go_at_call 118; (with_reducible refine (impl_PadsOk _ _ _ _ hx).mono ?_); rintro e w1 ⟨rfl, rfl⟩)
    go_ret
    exact ⟨rfl, rfl⟩
  · by_cases h0 : xs.length = 0
    · have e0 : padAt xs t = 0 := by simp [padAt, h0]
      rw [e0]
      have hn : ((xs.length : Int) == 0) = true := by simp [h0]
      have hn2 : (xs.length == 0) = true := by simp [h0]
      clear e0 h0
      go_enter Tryz.func190, Tryz.ntmps190
      go_wp2_with (go_at_call 118; (with_reducible refine (impl_PadsOk _ _ _ _ hx).mono ?_); rintro e w1 ⟨rfl, rfl⟩)
      go_ret
      exact ⟨rfl, rfl⟩
    · have hf := frm_0 t
      have hn : (0 : Int) < xs.length := by omega
      have h1 : 0 ≤ frm t % (xs.length : Int) := Int.emod_nonneg _ (by omega)
      have h2 : frm t % (xs.length : Int) < xs.length := Int.emod_lt_of_pos _ hn
      have hj : (frm t % (xs.length : Int)).toNat < xs.length := by omega
      have e0 : padAt xs t = rd xs (frm t % (xs.length : Int)).toNat := by simp [padAt, hp, h0]
      rw [e0]
      clear e0
      obtain ⟨ad, rfl, hc⟩ := hx.cell (St.nil w []) hj
      have hz : (xs.length == 0) = false := by simp [h0]
      have hz2 : ((xs.length : Int) == 0) = false := by simp [h0]
      have hz3 : xs ≠ [] := by intro e; exact h0 (by simp [e])
      go_enter Tryz.func190, Tryz.ntmps190
      go_wp2_with (first | (go_at_call 118; (with_reducible refine (impl_PadsOk _ _ _ _ hx).mono ?_); rintro e w1 ⟨rfl, rfl⟩) | (go_at_call 217; (with_reducible refine (impl_FrameOf _ _ ht).mono ?_); rintro e w1 ⟨rfl, rfl⟩))
      go_ret
      exact ⟨rfl, rfl⟩
set_option maxHeartbeats 1000000 in
theorem spec_PadAt (A : Option Addr) (c : Nat) (xs : List Int) (t : Int) (w : World) (hx : InI w A c xs) (ht : t ≤ 9223372036854775807) : Calls Tryz.prog 182 #[.slice A xs.length c, .int .i64 t] w fun e w' => e = .returned (.int .i64 (padAt xs t)) ∧ w = w' := by
  have hm := hx.2.1
  cases hp : padsB xs
  · have e0 : padAt xs t = 0 := by simp [padAt, hp]
    rw [e0]
    clear e0
    go_enter Tryz.func182, Tryz.ntmps182
    go_wp2_with (go_at_call 101; (with_reducible refine (spec_PadsOk _ _ _ _ hx).mono ?_); rintro e w1 ⟨rfl, rfl⟩)
    go_ret
    exact ⟨rfl, rfl⟩
  · by_cases h0 : xs.length = 0
    · have e0 : padAt xs t = 0 := by simp [padAt, h0]
      rw [e0]
      have hn : ((xs.length : Int) == 0) = true := by simp [h0]
      have hn2 : (xs.length == 0) = true := by simp [h0]
      clear e0 h0
      go_enter Tryz.func182, Tryz.ntmps182
      go_wp2_with (go_at_call 101; (with_reducible refine (spec_PadsOk _ _ _ _ hx).mono ?_); rintro e w1 ⟨rfl, rfl⟩)
      go_ret
      exact ⟨rfl, rfl⟩
    · have hf := frm_0 t
      have hn : (0 : Int) < xs.length := by omega
      have h1 : 0 ≤ frm t % (xs.length : Int) := Int.emod_nonneg _ (by omega)
      have h2 : frm t % (xs.length : Int) < xs.length := Int.emod_lt_of_pos _ hn
      have hj : (frm t % (xs.length : Int)).toNat < xs.length := by omega
      have e0 : padAt xs t = rd xs (frm t % (xs.length : Int)).toNat := by simp [padAt, hp, h0]
      rw [e0]
      clear e0
      obtain ⟨ad, rfl, hc⟩ := hx.cell (St.nil w []) hj
      have hz : (xs.length == 0) = false := by simp [h0]
      have hz2 : ((xs.length : Int) == 0) = false := by simp [h0]
      have hz3 : xs ≠ [] := by intro e; exact h0 (by simp [e])
      go_enter Tryz.func182, Tryz.ntmps182
      go_wp2_with (first | (go_at_call 101; (with_reducible refine (spec_PadsOk _ _ _ _ hx).mono ?_); rintro e w1 ⟨rfl, rfl⟩) | (go_at_call 216; (with_reducible refine (spec_FrameOf _ _ ht).mono ?_); rintro e w1 ⟨rfl, rfl⟩))
      go_ret
      exact ⟨rfl, rfl⟩
structure PadD where (h : Bool) (s : Int)
def PadD.write (x : PadD) (xs : List Int) (t v : Int) : PadD := { h := (v % 2 == 1), s := if (v % 2 == 1) = true ∨ x.h = true then padAt xs t else x.s }
def PadD.read (x : PadD) (xs : List Int) (t : Int) : PadD := if x.h = true then { h := true, s := padAt xs t } else { h := false, s := x.s / 2 }
def PadD.says (x : PadD) (xs : List Int) (t : Int) : Int := if x.h = true then padAt xs t % 2 else x.s % 2
theorem laws_toPad (a : PadD) (w : World) : Calls Tryz.prog 46 #[.agg #[.bool a.h, .int .i64 a.s]] w fun e w' => e = .returned (.agg #[.bool a.h, .int .i64 a.s]) ∧ Below w.heap.size w w' := by
  have H := St.nil w []
  go_enter Tryz.func46, Tryz.ntmps46
  go_wp2_with (first | ((with_reducible refine g_box rfl ?_); refine eBa H ?_; clear H; intro g_ W_ H) | ((with_reducible refine g_alloc rfl ?_); refine eNw H ?_; clear H; intro g_ W_ H) | ((with_reducible refine g_load rfl ?_); first | refine eL1 H ?_ | refine eLa H ?_) | ((with_reducible refine g_store rfl ?_); (first | refine eSi H ?_ | refine eSb H ?_ | refine eSa H ?_); clear H; intro W_ H))
  refine' back1 Tryz.results46 ?_ rfl ⟨?_, H.below⟩; rotate_left 1; exact rvA
  rfl
theorem laws_eqPad (a : PadD) (w : World) : Calls Tryz.prog 55 #[.agg #[.bool a.h, .int .i64 a.s], .agg #[.bool a.h, .int .i64 a.s]] w fun e w' => e = .returned (.bool true) ∧ Below w.heap.size w w' := by
  have H := St.nil w []
  go_enter Tryz.func55, Tryz.ntmps55
  go_wp2_with (first | ((with_reducible refine g_box rfl ?_); refine eBa H ?_; clear H; intro g_ W_ H) | ((with_reducible refine g_load rfl ?_); refine eL1 H ?_))
  all_goals (go_ret; exact ⟨rfl, H.below⟩)
set_option maxHeartbeats 2000000 in
theorem impl_PadWrite (x : PadD) (A : Option Addr) (c : Nat) (xs : List Int) (t v : Int) (w : World) (hx : InI w A c xs) (ht : t ≤ 9223372036854775807) : Calls Tryz.prog 138 #[.agg #[.bool x.h, .int .i64 x.s], .slice A xs.length c, .int .i64 t, .int .i64 v] w fun e w' => e = .returned (.agg #[.bool (x.write xs t v).h, .int .i64 (x.write xs t v).s]) ∧ Below w.heap.size w w' := by
  have H := St.nil w []
  cases h1 : (v % 2 == 1) <;> cases h2 : x.h
  all_goals
    go_enter Tryz.func138, Tryz.ntmps138
    go_wp2_with (first | ((with_reducible refine g_box rfl ?_); refine eBa H ?_; clear H; intro g_ W_ H) | ((with_reducible refine g_alloc rfl ?_); refine eNw H ?_; clear H; intro g_ W_ H) | ((with_reducible refine g_load rfl ?_); first | refine eL1 H ?_ | refine eLa H ?_) | ((with_reducible refine g_store rfl ?_); (first | refine eSi H ?_ | refine eSa H ?_); clear H; intro W_ H) | (go_at_call 190; refine (impl_PadAt _ _ _ _ _ (hx.on H) ht).mono ?_; rintro e w1 ⟨rfl, rfl⟩))
    all_goals (refine' back1 Tryz.results138 ?_ rfl ⟨?_, H.below⟩; rotate_left 1; exact rvA; clear H; simp_all [PadD.write])
set_option maxHeartbeats 2000000 in
theorem spec_PadWrite (x : PadD) (A : Option Addr) (c : Nat) (xs : List Int) (t v : Int) (w : World) (hx : InI w A c xs) (ht : t ≤ 9223372036854775807) : Calls Tryz.prog 134 #[.agg #[.bool x.h, .int .i64 x.s], .slice A xs.length c, .int .i64 t, .int .i64 v] w fun e w' => e = .returned (.agg #[.bool (x.write xs t v).h, .int .i64 (x.write xs t v).s]) ∧ Below w.heap.size w w' := by
  have H := St.nil w []
  cases h1 : (v % 2 == 1) <;> cases h2 : x.h
  all_goals
    go_enter Tryz.func134, Tryz.ntmps134
    go_wp2_with (first | ((with_reducible refine g_box rfl ?_); refine eBa H ?_; clear H; intro g_ W_ H) | ((with_reducible refine g_alloc rfl ?_); refine eNw H ?_; clear H; intro g_ W_ H) | ((with_reducible refine g_load rfl ?_); first | refine eL1 H ?_ | refine eLa H ?_) | ((with_reducible refine g_store rfl ?_); (first | refine eSi H ?_ | refine eSb H ?_ | refine eSa H ?_); clear H; intro W_ H) | (go_at_call 182; refine (spec_PadAt _ _ _ _ _ (hx.on H) ht).mono ?_; rintro e w1 ⟨rfl, rfl⟩))
    all_goals (refine' back1 Tryz.results134 ?_ rfl ⟨?_, H.below⟩; rotate_left 1; exact rvA; clear H; simp_all [PadD.write])
end Go.Proofs.YtjgggmcnbdjdjaaGreat.B

/- Words of my own for rows of whatever element: read, written, appended to, copied, cut. -/
namespace Go.Proofs.YtjgggmcnbdjdjaaGreat.K
open Go.RowKit
set_option maxRecDepth 20000
set_option linter.unusedVariables false
set_option linter.unusedSimpArgs false

/-- The cells that a slice reads as. -/
def In (w : World) (A : Option Addr) (cs : List Value) : Prop := ∀ (j : Nat) (v : Value), cs[j]? = some v → ∃ ad, A = some ad ∧ w.cell? (ad.add j) = some v
theorem In.keep {w W : World} {A : Option Addr} {cs : List Value} (h : In w A cs) (hb : Below w.heap.size w W) : In W A cs := fun j v hj => by
  obtain ⟨ad, h1, h2⟩ := h j v hj
  exact ⟨ad, h1, (hb.cell (World.block_lt_of_cell? _ _ h2)).trans h2⟩
theorem In.on {w0 W : World} {A : Option Addr} {cs : List Value} (h : In w0 A cs) {l : List Ast} (H : St w0 [] W l) : In W A cs := h.keep H.below
theorem In.nil (w : World) (A : Option Addr) : In w A [] := fun j v hj => by simp at hj
/-- Where it lies, if anything is there. -/
theorem In.at {w : World} {A : Option Addr} {cs : List Value} (h : In w A cs) (h0 : 0 < cs.length) : ∃ ad, A = some ad ∧ ∀ (j : Nat) (v : Value), cs[j]? = some v → w.cell? (ad.add j) = some v := by
  obtain ⟨ad, h1, _⟩ := h 0 _ (List.getElem?_eq_getElem h0)
  refine ⟨ad, h1, fun j v hj => ?_⟩
  obtain ⟨ad', h2, h3⟩ := h j v hj
  rw [h1] at h2; injection h2 with h2; subst h2; exact h3
/-- Cells that lie at an address, on blocks that the walk knows or that stood before. -/
def Ast.row (T : TypeId) (A : Option Addr) (cs : List Value) : Ast where
  fp := (A.map (·.block)).toList
  p w := match A with
    | none => cs = []
    | some ad => ad.spot = none ∧ ∃ cur, w.heap[ad.block]? = some (.cells cur T (0, 0)) ∧ ad.off + cs.length ≤ cur.size ∧ (cur.toList.drop ad.off).take cs.length = cs
  st w w' h hp := by
    cases A with
    | none => exact hp
    | some ad =>
      obtain ⟨h1, cur, hh, r⟩ := hp
      exact ⟨h1, cur, (h ad.block (by simp)).trans hh, r⟩
  lv w hp b hb := by
    cases A with
    | none => simp at hb
    | some ad =>
      simp at hb
      subst hb
      obtain ⟨h1, cur, hh, r⟩ := hp
      exact (Array.getElem?_eq_some_iff.1 hh).1
theorem own_row {T : TypeId} {sz : Nat} {A : Option Addr} {n c : Nat} {xs : List Value} {w : World} (h : (Ast.own T sz A n c xs).p w) : (Ast.row T A xs).p w := by
  rcases own_form h with ⟨h1, _, _, h4⟩ | ⟨g, cur, hA, hh, h1, h2, h3, h4, h5⟩
  · subst h1; exact h4
  · subst hA
    refine ⟨rfl, cur, hh, ?_, ?_⟩
    · show 0 + xs.length ≤ cur.size
      rw [h5, h3, Nat.zero_add]; exact Nat.mul_le_mul_right _ h1
    · show (cur.toList.drop 0).take xs.length = xs
      rw [List.drop_zero, h5]; exact h4
theorem row_in {T : TypeId} {A : Option Addr} {cs : List Value} {w : World} (h : (Ast.row T A cs).p w) : In w A cs := by
  intro j v hj
  cases A with
  | none =>
    have h' : cs = [] := h
    subst h'; simp at hj
  | some ad =>
    obtain ⟨h1, cur, hh, h2, h3⟩ := h
    refine ⟨ad, rfl, ?_⟩
    obtain ⟨g, off, spot⟩ := ad
    simp only at h1 hh h2 h3
    subst h1
    rw [Addr.add_mid, cell_of_row w g (off + j) cur T (0, 0) hh]
    have hj' : j < cs.length := (List.getElem?_eq_some_iff.1 hj).1
    rw [← h3, List.getElem?_take, if_pos hj', List.getElem?_drop] at hj
    simpa using hj
theorem own_in {T : TypeId} {sz : Nat} {A : Option Addr} {n c : Nat} {xs : List Value} {w : World} (h : (Ast.own T sz A n c xs).p w) : In w A xs := row_in (own_row h)
section
variable {P : Program} {ops : Array Oper} {rest : List Oper} {o : Oper} {a : Act} {Q : Exit → Act → World → Prop} {w0 W : World} {S : List Nat} {l l' : List Ast}
/-- One cell that lies somewhere in a row. -/
theorem ev_load_in_one (hgd : Region.wanted o (yielded ops a.tmps) = true) {T : TypeId} {x : Operand} (ho : o.op = .load T x) {p : Addr} (hx : a.eval x = .pointer (some p)) {v : Value} (hT : oneOf P T = true)
    (hc : W.cell? p = some v) (h : wpList P ops Q rest (a.put o.dst v) W) : wpList P ops Q (o :: rest) a W := by
  refine ev_run hgd ?_ h
  unfold oneOf at hT
  obtain ⟨h1, h2⟩ := (Bool.and_eq_true _ _).mp hT
  have hagg : (isAgg T).run P W = .ok false W := by
    cases hu : P.underlying T with
    | none => rw [hu] at h1; cases h1
    | some d =>
      rw [hu] at h1
      unfold isAgg
      rw [Sem.run_bind, run_underlying hu W]
      cases d <;> simp_all
  unfold execOp
  simp [ho, hx, Instr.loadAt, Instr.sureAddr, loadVar, Sem.run_bind, hagg, run_load, hc]
/-- Loads from a block that is known otherwise. -/
theorem ev_load_blk1 {g off : Nat} {cs : List Value} {U : TypeId} (hp : (Ast.blk g cs U).p W) (hgd : Region.wanted o (yielded ops a.tmps) = true) {T : TypeId} {x : Operand} (ho : o.op = .load T x) (hx : a.eval x = .pointer (some ⟨g, off, none⟩)) {v : Value}
    (hT : oneOf P T = true) (hv : cs[off]? = some v) (h : wpList P ops Q rest (a.put o.dst v) W) : wpList P ops Q (o :: rest) a W := by
  refine ev_run hgd ?_ h
  unfold execOp
  simp only [ho, hx, Instr.loadAt, Instr.sureAddr, Sem.run_bind, Sem.run_pure, Result.andThen_ok, run_load_one hT hp hv]
/-- A store into a row. -/
theorem ev_store_row (H : St w0 S W l) (hgd : Region.wanted o (yielded ops a.tmps) = true) {T : TypeId} {x y : Operand} (ho : o.op = .store T x y) {g off0 off n q : Nat} (hx : a.eval x = .pointer (some ⟨g, q, none⟩)) {v : Value} {cs cs' vs : List Value} {U : TypeId} (hy : a.eval y = v) (hv : v.cells = vs.toArray)
    (hk : Pick (Ast.row U (some ⟨g, off0, none⟩) cs) l l') (hq : q = off0 + off) (hT : (P.info? T).map (·.size) = some n) (hn : vs.length = n) (hl : off + n ≤ cs.length) (h1 : vs.all (·.oneCell') = true) (hcs : cs.take off ++ vs ++ cs.drop (off + n) = cs')
    (h : ∀ W1, St w0 S W1 (Ast.row U (some ⟨g, off0, none⟩) cs' :: l') → wpList P ops Q rest (a.put o.dst undef) W1) : wpList P ops Q (o :: rest) a W := by
  subst hcs; subst hq
  obtain ⟨_, cur, hh, h2, h3⟩ := H.get hk
  simp only at hh h2 h3
  have hrun := run_store_at (P := P) (W := W) (v := v) (cs := cur.toList) (off := off0 + off) hT (by simpa using hh) (by rw [hv]; simpa using hn) (by rw [Array.length_toList]; omega) (by rw [hv]; exact h1) rfl
  refine ev_skip (W1 := W.setRow g (cur.toList.take (off0 + off) ++ v.cells.toList ++ cur.toList.drop (off0 + off + n)).toArray) hgd ?_ (h _ ?_)
  · unfold execOp
    simp only [ho, hx, hy, Instr.storeAt, Instr.sureAddr, Sem.run_bind, Sem.run_pure, Result.andThen_ok, hrun]
  · refine St.callS (t := [Ast.row U (some ⟨g, off0, none⟩) cs]) (S1 := [g]) (l1 := [Ast.row U (some ⟨g, off0, none⟩) _]) (H.pick hk) ⟨rfl, rfl, rfl, by simp [World.setRow], fun i _ hi => ?_, fun a ha => ?_, by simp [Ast.row], fun a ha b hb => ?_⟩ (by simp [Ast.row])
    · show (W.heap.modify g _)[i]? = _
      rw [Array.getElem?_modify, if_neg (by simpa using fun e => hi (by simp [e]))]
    · rw [List.mem_singleton.1 ha]
      refine ⟨rfl, _, setRow_heap W g _ _ U _ hh, ?_, ?_⟩
      · simp [hv, hn]; omega
      · simp only [hv, List.toList_toArray]
        have e0 : (cs.take off ++ vs ++ cs.drop (off + n)).length = cs.length := by simp [hn]; omega
        rw [e0]
        refine List.ext_getElem? fun j => ?_
        rw [List.getElem?_take]
        by_cases hj : j < cs.length
        · rw [if_pos hj, List.getElem?_drop]
          have hcj : cs[j]? = cur.toList[off0 + j]? := by rw [← h3, List.getElem?_take, if_pos hj, List.getElem?_drop]
          simp only [List.getElem?_append, List.length_append, List.length_take, Array.length_toList, List.getElem?_take, List.getElem?_drop, hn]
          rw [show min (off0 + off) cur.size = off0 + off by omega, show min off cs.length = off by omega]
          by_cases c1 : j < off
          · rw [if_pos (by omega), if_pos (by omega), if_pos (by omega), if_pos (by omega), if_pos c1, if_pos c1, hcj]
          · by_cases c2 : j < off + n
            · rw [if_pos (by omega), if_neg (by omega), if_pos (by omega), if_neg (by omega)]
              congr 1; omega
            · rw [if_neg (by omega), if_neg (by omega)]
              rw [show off + n + (j - (off + n)) = j by omega, show off0 + off + n + (off0 + j - (off0 + off + n)) = off0 + j by omega]
              exact hcj.symm
        · rw [if_neg hj]
          exact (List.getElem?_eq_none (by rw [e0]; omega)).symm
    · rw [List.mem_singleton.1 ha] at hb; exact .inl (by simpa [Ast.row] using hb)
theorem own_append {t ty e : TypeId} {size bytes : Nat} {z : Value} (ht : P.underlying t = some (.slice e)) (hi : (P.info? e).map (fun i => (i.zero, i.size, i.bytes)) = some (some z, size, bytes)) (hzs : z.cells.size = size) (hsz : 0 < size)
    {A B : Option Addr} {n c m d : Nat} {xs news : List Value} (hown : (Ast.own e size A n c xs).p W) (hin : In W B news) (hm : B = none → m = 0) (hl : news.length = m * size) (h1 : news.all (·.oneCell') = true) (hbytes : (n + m) * bytes ≤ 140737488355328) (h63 : n + m ≤ maxLen) :
    ∃ A' c' w', (Builtin.append_ #[t, t] ty #[.slice A n c, .slice B m d]).run P W = .ok (.slice A' (n + m) c') w' ∧ St W (Ast.own e size A n c xs).fp w' [Ast.own e size A' (n + m) c' (xs ++ news)] := by
  obtain ⟨i, hi1, hz, hs, hb⟩ := info_parts hi
  cases B with
  | none =>
    have hm0 := hm rfl
    subst hm0
    have hnil : news = [] := List.eq_nil_of_length_eq_zero (by rw [hl]; omega)
    subst hnil
    refine ⟨A, c, W, ?_, ?_⟩
    · have hc := (own_le hown).1
      simp [Builtin.append_, run_underlying ht, sizeOf, typeInfo, hi1, Builtin.lenOf, Builtin.firstCells, hc]
      cases A <;> simp [storeCells]
    · rw [List.append_nil]
      exact ⟨rfl, rfl, rfl, Nat.le_refl _, fun _ _ _ => rfl, fun a ha => by rw [List.mem_singleton.1 ha]; exact hown, by cases A <;> simp [Ast.own], fun a ha b hb => by rw [List.mem_singleton.1 ha] at hb; exact .inl hb⟩
  | some ad =>
    have hin' : ∀ j u, news[j]? = some u → W.cell? (ad.add j) = some u := fun j u hj => by
      obtain ⟨ad', h2, h3⟩ := hin j u hj
      injection h2 with h2; subst h2; exact h3
    obtain ⟨v', w', hr, h2, h3, _, h5⟩ := run_append_own_at (P := P) W 0 t ty e i z size bytes ht hi1 hz hs hb hzs hsz (.slice A n c) n xs hown ad m d news hl hin' (fun u hu => List.all_eq_true.1 h1 u hu) h63 hbytes (Nat.zero_le _)
    have hform : ∃ A' c', v' = .slice A' (n + m) c' := by
      rcases h2.2 with ⟨hv, h0⟩ | ⟨g, cap, cur, hv, _⟩
      · exact ⟨none, 0, by rw [hv]; congr 1; omega⟩
      · exact ⟨_, _, hv⟩
    obtain ⟨A', c', rfl⟩ := hform
    have hfp : ∀ (A : Option Addr) (n c : Nat) (xs : List Value) (w : World), (Ast.own e size A n c xs).p w → (Value.slice A n c).ownBlock = A.map (·.block) := fun A n c xs w h => by
      rcases own_form h with ⟨h1, _, _, _⟩ | ⟨g, cur, hA, _⟩
      · subst h1; rfl
      · subst hA; rfl
    have hA := hfp A n c xs W hown
    have hA' := hfp A' (n + m) c' (xs ++ news) w' h2
    refine ⟨A', c', w', hr, ⟨h3.os, h3.tape, h3.output, h3.size, fun k hk hkS => h3.block k hk ?_, fun a ha => by rw [List.mem_singleton.1 ha]; exact h2, by cases A' <;> simp [Ast.own], fun a ha b hb => ?_⟩⟩
    · rw [hA]
      intro he
      refine hkS ?_
      cases A with
      | none => simp at he
      | some ad => simp at he; simp [Ast.own, he]
    · rw [List.mem_singleton.1 ha] at hb
      have hb' : A'.map (·.block) = some b := by cases A' <;> simp [Ast.own] at hb ⊢; exact hb.symm
      rw [hA', hb', hA] at h5
      rcases h5 with h5 | h5
      · exact .inl (by simp [Ast.own, ← h5])
      · injection h5 with h5; exact .inr (by omega)
theorem g_append {s x : Operand} {t : TypeId} (_ho : o.op = .call { callee := .builtin .append, args := #[s, x], argTypes := #[t, t] }) (h : wpList P ops Q (o :: rest) a W) : wpList P ops Q (o :: rest) a W := h
theorem ev_append (H : St w0 S W l) (hgd : Region.wanted o (yielded ops a.tmps) = true) {s x : Operand} {t e : TypeId} (ho : o.op = .call { callee := .builtin .append, args := #[s, x], argTypes := #[t, t] })
    {size bytes : Nat} {z : Value} (ht : P.underlying t = some (.slice e)) (hi : (P.info? e).map (fun i => (i.zero, i.size, i.bytes)) = some (some z, size, bytes)) (hzs : z.cells.size = size) (hsz : 0 < size)
    {A B : Option Addr} {n c m d : Nat} {xs news : List Value} (hs : a.eval s = .slice A n c) (hx : a.eval x = .slice B m d) (hk : Pick (Ast.own e size A n c xs) l l')
    (hin : In W B news) (hm : B = none → m = 0) (hl : news.length = m * size) (h1 : news.all (·.oneCell') = true) (hbytes : (n + m) * bytes ≤ 140737488355328) (h63 : n + m ≤ maxLen)
    (h : ∀ A' c' W1, St w0 S W1 (Ast.own e size A' (n + m) c' (xs ++ news) :: l') → wpList P ops Q rest (a.put o.dst (.slice A' (n + m) c')) W1) : wpList P ops Q (o :: rest) a W := by
  obtain ⟨A', c', w', hr, k⟩ := own_append (P := P) (ty := o.type) ht hi hzs hsz (H.get hk) hin hm hl h1 hbytes h63 (d := d)
  refine ev_run (W1 := w') hgd ?_ (h A' c' w' ((H.pick hk).up1 k (fun b hb => hb)))
  unfold execOp
  simp only [ho, resolve, invoke, builtin, Sem.run_bind, Sem.run_pure, Result.andThen_ok, List.map_toArray, List.map_cons, List.map_nil, hs, hx, hr]
/-- The same, what comes of it spelled as is wanted. -/
theorem ev_appendN (H : St w0 S W l) (hgd : Region.wanted o (yielded ops a.tmps) = true) {s x : Operand} {t e : TypeId} (ho : o.op = .call { callee := .builtin .append, args := #[s, x], argTypes := #[t, t] })
    {size bytes : Nat} {z : Value} (ht : P.underlying t = some (.slice e)) (hi : (P.info? e).map (fun i => (i.zero, i.size, i.bytes)) = some (some z, size, bytes)) (hzs : z.cells.size = size) (hsz : 0 < size)
    {A B : Option Addr} {n c m d : Nat} {xs news : List Value} (hs : a.eval s = .slice A n c) (hx : a.eval x = .slice B m d) (hk : Pick (Ast.own e size A n c xs) l l')
    (hin : In W B news) (hm : B = none → m = 0) (hl : news.length = m * size) (h1 : news.all (·.oneCell') = true) (hbytes : (n + m) * bytes ≤ 140737488355328) (h63 : n + m ≤ maxLen) {N : Nat} {cs' : List Value} (hN : n + m = N) (hcs : xs ++ news = cs')
    (h : ∀ A' c' W1, St w0 S W1 (Ast.own e size A' N c' cs' :: l') → wpList P ops Q rest (a.put o.dst (.slice A' N c')) W1) : wpList P ops Q (o :: rest) a W := by
  subst hN; subst hcs
  exact ev_append H hgd ho ht hi hzs hsz hs hx hk hin hm hl h1 hbytes h63 h
theorem g_buildSlice {t : TypeId} {n : Nat} {parts : Array (Nat × Operand)} (_ho : o.op = .buildSlice t n parts) (h : wpList P ops Q (o :: rest) a W) : wpList P ops Q (o :: rest) a W := h
/-- A slice literal. -/
theorem ev_buildSlice (H : St w0 S W l) (hgd : Region.wanted o (yielded ops a.tmps) = true) {t e : TypeId} {n : Nat} {parts : Array (Nat × Operand)} (ho : o.op = .buildSlice t n parts)
    {size bytes : Nat} {z : Value} (ht : P.underlying t = some (.slice e)) (hi : (P.info? e).map (fun i => (i.zero, i.size, i.bytes)) = some (some z, size, bytes)) {vals : List (Nat × Value)} {cells : List Value}
    (hp : (parts.map fun (i, x) => (i, a.eval x)) = vals.toArray) (hf : Instr.fill (fun i => some (i * size, size)) ((Array.range (n * size)).map (z.cells[· % z.cells.size]!)) vals = some cells.toArray) (hn : cells.length = n * size) (hpos : n * size ≠ 0) (hsmall : n * size ≤ 2 ^ 24) (hn63 : n ≤ maxLen)
    (h : ∀ g W1, St w0 S W1 (Ast.own e size (some ⟨g, 0, none⟩) n n cells :: l) → wpList P ops Q rest (a.put o.dst (.slice (some ⟨g, 0, none⟩) n n)) W1) : wpList P ops Q (o :: rest) a W := by
  obtain ⟨i, hi1, hz, hs, hb⟩ := info_parts hi
  subst hs
  have hr := Go.run_buildSlice (P := P) W t e n vals.toArray cells.toArray i z ht hi1 hz (by omega) hpos (by simpa using hf)
  refine ev_run (W1 := W.alloc (.cells cells.toArray e)) hgd ?_ (h W.heap.size _ ?_)
  · unfold execOp
    simp only [ho, hp, hr, Sem.run_bind, Sem.run_pure, Result.andThen_ok]
  · refine H.call (l1 := [Ast.own e i.size (some ⟨W.heap.size, 0, none⟩) n n cells]) ⟨rfl, rfl, rfl, by simp, fun k hk _ => heap_alloc_old W _ hk, fun a ha => ?_, by simp [Ast.own], fun a ha b hb => ?_⟩
    · rw [List.mem_singleton.1 ha]
      exact own_mk (heap_alloc_new W _) (Nat.le_refl _) hn63 (by simpa using hn) (by simp [← hn])
    · rw [List.mem_singleton.1 ha] at hb; simp [Ast.own] at hb; exact .inr (by omega)
theorem ev_buildSlice1 (H : St w0 S W l) (hgd : Region.wanted o (yielded ops a.tmps) = true) {t e : TypeId} {x : Operand} (ho : o.op = .buildSlice t 1 #[(0, x)]) {v : Value} (hx : a.eval x = v)
    {size bytes : Nat} {z : Value} (ht : P.underlying t = some (.slice e)) (hi : (P.info? e).map (fun i => (i.zero, i.size, i.bytes)) = some (some z, size, bytes)) {cells : List Value}
    (hf : Instr.fill (fun i => some (i * size, size)) ((Array.range (1 * size)).map (z.cells[· % z.cells.size]!)) [(0, v)] = some cells.toArray) (hn : cells.length = 1 * size) (hpos : 1 * size ≠ 0) (hsmall : 1 * size ≤ 2 ^ 24) (hn63 : 1 ≤ maxLen)
    (h : ∀ g W1, St w0 S W1 (Ast.own e size (some ⟨g, 0, none⟩) 1 1 cells :: l) → wpList P ops Q rest (a.put o.dst (.slice (some ⟨g, 0, none⟩) 1 1)) W1) : wpList P ops Q (o :: rest) a W :=
  ev_buildSlice H hgd ho ht hi (vals := [(0, v)]) (by simp [hx]) hf hn hpos hsmall hn63 h
/-- The empty slice literal. -/
theorem ev_buildSlice0 (H : St w0 S W l) (hgd : Region.wanted o (yielded ops a.tmps) = true) {t e : TypeId} (ho : o.op = .buildSlice t 0 #[])
    {size bytes : Nat} {z : Value} (ht : P.underlying t = some (.slice e)) (hi : (P.info? e).map (fun i => (i.zero, i.size, i.bytes)) = some (some z, size, bytes))
    (h : ∀ g W1, St w0 S W1 (Ast.own e size (some ⟨g, 0, none⟩) 0 0 [] :: l) → wpList P ops Q rest (a.put o.dst (.slice (some ⟨g, 0, none⟩) 0 0)) W1) : wpList P ops Q (o :: rest) a W := by
  obtain ⟨i, hi1, hz, hs, hb⟩ := info_parts hi
  refine ev_run (W1 := W.alloc (.cells #[] e)) hgd ?_ (h W.heap.size _ ?_)
  · unfold execOp
    simp [ho, Instr.buildSlice, run_underlying ht, sizeOf, typeInfo, hi1, Instr.fill, newRow]
    rw [Array.eq_empty_of_size_eq_zero (by simp : (Array.map (fun _ => (default : Value)) (Array.range 0)).size = 0)]
  · refine H.call (l1 := [Ast.own e size (some ⟨W.heap.size, 0, none⟩) 0 0 []]) ⟨rfl, rfl, rfl, by simp, fun k hk _ => heap_alloc_old W _ hk, fun a ha => ?_, by simp [Ast.own], fun a ha b hb => ?_⟩
    · rw [List.mem_singleton.1 ha]
      exact own_mk (heap_alloc_new W _) (Nat.le_refl _) (Nat.zero_le _) (by simp) (by simp)
    · rw [List.mem_singleton.1 ha] at hb; simp [Ast.own] at hb; exact .inr (by omega)
end
end Go.Proofs.YtjgggmcnbdjdjaaGreat.K

/- Words of my own for bundles of what is known of memory, and for rows of rows. -/
namespace Go.Proofs.YtjgggmcnbdjdjaaGreat.K
open Go.RowKit
set_option maxRecDepth 20000
set_option linter.unusedVariables false
set_option linter.unusedSimpArgs false
/-- Where a slice lies, and its capacity. -/
structure Sl where (A : Option Addr) (c : Nat)
def Sl.nil : Sl := ⟨none, 0⟩
/-- Where a slice of slices lies, and where its rows lie. -/
structure Rw where (s : Sl) (r : List Sl)
def Rw.nil : Rw := ⟨⟨none, 0⟩, []⟩
abbrev intsA (q : Sl) (xs : List Int) : Ast := Ast.own 3 1 q.A xs.length q.c (nums xs)
/-- Several, as one. -/
def Ast.all (l : List Ast) : Ast where
  fp := l.flatMap Ast.fp
  p w := ∀ a, a ∈ l → a.p w
  st w w' h hp a ha := a.st w w' (fun b hb => h b (List.mem_flatMap.2 ⟨a, ha, hb⟩)) (hp a ha)
  lv w hp b hb := by
    obtain ⟨a, ha, hb⟩ := List.mem_flatMap.1 hb
    exact a.lv w (hp a ha) b hb
theorem St.all {w0 W : World} {S : List Nat} (l1 : List Ast) {l : List Ast} (h : St w0 S W (l1 ++ l)) : St w0 S W (Ast.all l1 :: l) := by
  refine ⟨h.os, h.tape, h.output, h.size, h.block, fun a ha => ?_, ?_, fun a ha b hb => ?_⟩
  · rcases List.mem_cons.1 ha with rfl | ha
    · exact fun x hx => h.hp x (List.mem_append_left _ hx)
    · exact h.hp a (List.mem_append_right _ ha)
  · have := h.nd
    rw [List.flatMap_append] at this
    exact this
  · rcases List.mem_cons.1 ha with rfl | ha
    · obtain ⟨x, hx, hb⟩ := List.mem_flatMap.1 hb
      exact h.own x (List.mem_append_left _ hx) b hb
    · exact h.own a (List.mem_append_right _ ha) b hb
theorem St.opn {w0 W : World} {S : List Nat} {l1 l : List Ast} (h : St w0 S W (Ast.all l1 :: l)) : St w0 S W (l1 ++ l) := by
  refine ⟨h.os, h.tape, h.output, h.size, h.block, fun a ha => ?_, ?_, fun a ha b hb => ?_⟩
  · rcases List.mem_append.1 ha with ha | ha
    · exact h.hp _ List.mem_cons_self a ha
    · exact h.hp a (List.mem_cons_of_mem _ ha)
  · have := h.nd
    rw [List.flatMap_append]
    exact this
  · rcases List.mem_append.1 ha with ha | ha
    · exact h.own _ List.mem_cons_self b (List.mem_flatMap.2 ⟨a, ha, hb⟩)
    · exact h.own a (List.mem_cons_of_mem _ ha) b hb
theorem St.toEnd {w0 W : World} {S : List Nat} {a : Ast} {l : List Ast} (h : St w0 S W (a :: l)) : St w0 S W (l ++ [a]) := h.perm (List.perm_append_singleton a l).symm
/-- Of what is picked one bundle is made. -/
theorem St.pack {w0 W : World} {S : List Nat} {l1 l l' : List Ast} (h : St w0 S W l) (k : Picks l1 l l') : St w0 S W (Ast.all l1 :: l') := St.all l1 (h.picks k)
/-- A bundle is opened. -/
theorem St.unpack {w0 W : World} {S : List Nat} {l1 l l' : List Ast} (h : St w0 S W l) (k : Pick (Ast.all l1) l l') : St w0 S W (l1 ++ l') := (h.pick k).opn
/-- One is known less of. -/
theorem St.weak {w0 W : World} {S : List Nat} {a b : Ast} {l l' : List Ast} (h : St w0 S W l) (k : Pick a l l') (hf : b.fp = a.fp) (hp : ∀ w, a.p w → b.p w) : St w0 S W (b :: l') := by
  have h1 := h.pick k
  refine ⟨h1.os, h1.tape, h1.output, h1.size, h1.block, fun x hx => ?_, ?_, fun x hx b' hb => ?_⟩
  · rcases List.mem_cons.1 hx with rfl | hx
    · exact hp _ (h1.hp a List.mem_cons_self)
    · exact h1.hp x (List.mem_cons_of_mem _ hx)
  · have := h1.nd
    simpa [hf] using this
  · rcases List.mem_cons.1 hx with rfl | hx
    · exact h1.own a List.mem_cons_self b' (hf ▸ hb)
    · exact h1.own x (List.mem_cons_of_mem _ hx) b' hb
theorem all_hol {w : World} {l : List Ast} (h : Hol w [Ast.all l]) : Hol w l := ⟨h.hp _ (List.mem_singleton.2 rfl), by have := h.nd; simpa [Ast.all] using this⟩
theorem InI.ofS {w : World} {q : Sl} {xs : List Int} (h : (intsA q xs).p w) : InI w q.A q.c xs := InI.of h
theorem InI.nil (w : World) : InI w none 0 [] := ⟨Nat.le_refl _, by simp, fun h => absurd h (by simp)⟩
theorem InI.in {w : World} {A : Option Addr} {c : Nat} {xs : List Int} (h : InI w A c xs) : In w A (nums xs) := by
  intro j v hj
  have hl : j < xs.length := by have := (List.getElem?_eq_some_iff.1 hj).1; simpa [nums] using this
  obtain ⟨ad, h1, h2⟩ := h.2.2 (by omega)
  refine ⟨ad, h1, ?_⟩
  rw [nums_at hl] at hj
  injection hj with hj
  rw [← hj]; exact h2 j hl

theorem InI.none {w : World} {A : Option Addr} {c : Nat} {xs : List Int} (h : InI w A c xs) : A = Option.none → xs.length = 0 := fun e => by
  rcases Nat.eq_zero_or_pos xs.length with h0 | h0
  · exact h0
  · obtain ⟨ad, h1, _⟩ := h.2.2 h0
    rw [e] at h1; cases h1
theorem nums_one' (xs : List Int) : (nums xs).all (·.oneCell') = true := by
  rw [List.all_eq_true]
  intro v hv
  obtain ⟨x, _, rfl⟩ := List.mem_map.1 hv
  rfl

/-! ## rows of rows -/
def rwAt (rs : List (List Int)) (k : Nat) : List Int := rs.getD k []
def slAt (qs : List Sl) (k : Nat) : Sl := qs.getD k Sl.nil
theorem rwAt_at {rs : List (List Int)} {k : Nat} (h : k < rs.length) : rwAt rs k = rs[k] := by simp [rwAt, List.getD_eq_getElem?_getD, List.getElem?_eq_getElem h]
theorem slAt_at {qs : List Sl} {k : Nat} (h : k < qs.length) : slAt qs k = qs[k] := by simp [slAt, List.getD_eq_getElem?_getD, List.getElem?_eq_getElem h]
def rowVals (rs : List (List Int)) (qs : List Sl) : List Value := List.zipWith (fun xs q => .slice q.A xs.length q.c) rs qs
theorem rowVals_length (rs : List (List Int)) (qs : List Sl) (h : rs.length ≤ qs.length) : (rowVals rs qs).length = rs.length := by simp [rowVals]; omega
theorem rowVals_at {rs : List (List Int)} {qs : List Sl} {k : Nat} (h : k < rs.length) (hq : rs.length ≤ qs.length) : (rowVals rs qs)[k]? = some (.slice (slAt qs k).A (rwAt rs k).length (slAt qs k).c) := by
  have hk : k < qs.length := by omega
  simp [rowVals, List.getElem?_zipWith, List.getElem?_eq_getElem h, List.getElem?_eq_getElem hk, rwAt_at h, slAt_at hk]
theorem rowVals_append (rs rs' : List (List Int)) (qs qs' : List Sl) (h : rs.length = qs.length) : rowVals (rs ++ rs') (qs ++ qs') = rowVals rs qs ++ rowVals rs' qs' := by
  simp [rowVals, List.zipWith_append h]
/-- The rows alone. -/
def rowAs (rs : List (List Int)) (qs : List Sl) : List Ast := List.zipWith (fun xs q => intsA q xs) rs qs
theorem rowAs_append (rs rs' : List (List Int)) (qs qs' : List Sl) (h : rs.length = qs.length) : rowAs (rs ++ rs') (qs ++ qs') = rowAs rs qs ++ rowAs rs' qs' := by
  simp [rowAs, List.zipWith_append h]
theorem rowAs_at {rs : List (List Int)} {qs : List Sl} {k : Nat} (h : k < rs.length) (hq : rs.length ≤ qs.length) : intsA (slAt qs k) (rwAt rs k) ∈ rowAs rs qs := by
  have hk : k < qs.length := by omega
  refine List.mem_of_getElem? (i := k) ?_
  simp [rowAs, List.getElem?_zipWith, List.getElem?_eq_getElem h, List.getElem?_eq_getElem hk, rwAt_at h, slAt_at hk]
def outA (q : Rw) (rs : List (List Int)) : Ast := Ast.own 25 1 q.s.A rs.length q.s.c (rowVals rs q.r)
def rowsA (q : Rw) (rs : List (List Int)) : Ast := Ast.all [outA q rs, Ast.all (rowAs rs q.r)]
/-- A slice of slices reads as rs. -/
structure InRR (w : World) (q : Rw) (rs : List (List Int)) : Prop where
  le : rs.length ≤ q.s.c
  mx : rs.length ≤ 9223372036854775807
  len : rs.length ≤ q.r.length
  out : In w q.s.A (rowVals rs q.r)
  row : ∀ k, k < rs.length → InI w (slAt q.r k).A (slAt q.r k).c (rwAt rs k)
theorem InI.keep {w W : World} {A : Option Addr} {c : Nat} {xs : List Int} (h : InI w A c xs) (hb : Below w.heap.size w W) : InI W A c xs :=
  ⟨h.1, h.2.1, fun hn => by
    obtain ⟨ad, h1, h2⟩ := h.2.2 hn
    exact ⟨ad, h1, fun j hj => (hb.cell (World.block_lt_of_cell? _ _ (h2 j hj))).trans (h2 j hj)⟩⟩
theorem InRR.keep {w W : World} {q : Rw} {rs : List (List Int)} (h : InRR w q rs) (hb : Below w.heap.size w W) : InRR W q rs := ⟨h.le, h.mx, h.len, h.out.keep hb, fun k hk => (h.row k hk).keep hb⟩
theorem InRR.on {w0 W : World} {q : Rw} {rs : List (List Int)} (h : InRR w0 q rs) {l : List Ast} (H : St w0 [] W l) : InRR W q rs := h.keep H.below
theorem InRR.nil (w : World) : InRR w Rw.nil [] := ⟨Nat.le_refl _, by simp, Nat.le_refl _, In.nil _ _, fun k hk => absurd hk (by simp)⟩
theorem InRR.cell {w0 W : World} {q : Rw} {rs : List (List Int)} (h : InRR w0 q rs) {l : List Ast} (H : St w0 [] W l) {k : Nat} (hk : k < rs.length) :
    ∃ ad, q.s.A = some ad ∧ W.cell? (ad.add k) = some (.slice (slAt q.r k).A (rwAt rs k).length (slAt q.r k).c) := by
  obtain ⟨ad, h1, h2⟩ := (h.on H).out k _ (rowVals_at hk h.len)
  exact ⟨ad, h1, h2⟩
theorem InRR.of {w : World} {q : Rw} {rs : List (List Int)} (h : (rowsA q rs).p w) : InRR w q rs := by
  have h1 : (outA q rs).p w := h _ (by simp)
  have h2 : (Ast.all (rowAs rs q.r)).p w := h _ (by simp)
  have hl : rs.length ≤ q.r.length := by
    rcases own_form h1 with ⟨_, h0, _, _⟩ | ⟨g, cur, _, _, _, _, _, _, h6⟩
    · omega
    · simp [rowVals] at h6; omega
  exact ⟨(own_le h1).1, (own_le h1).2, hl, own_in h1, fun k hk => InI.ofS (h2 _ (rowAs_at hk hl))⟩
theorem info_ints : (Tryz.prog.info? 25).map (fun i => (i.zero, i.size, i.bytes)) = some (some (.slice none 0 0), 1, 24) := by kernel_rfl
end Go.Proofs.YtjgggmcnbdjdjaaGreat.K

