/- What the small functions of the program tell: numbers, times, the sound unit. -/
import Derived.Test.YtjgggmcnbdjdjaaH
namespace Go.Proofs.Ytjgggmcnbdjdjaa.B
open Go.RowKit Go.Proofs.Ytjgggmcnbdjdjaa.K
attribute [local go_sem] max2_int min2_int max_two min_two i64_and255 i64_and65535 i64_and1
set_option maxRecDepth 20000
set_option linter.unusedVariables false
set_option linter.unusedSimpArgs false

/-! ## numbers -/
theorem impl_within (n lo hi : Int) (w : World) : Calls Try.prog 51 #[.int .i64 n, .int .i64 lo, .int .i64 hi] w fun e w' => e = .returned (.bool (inB n lo hi)) ∧ w = w' := by
  go_enter Try.func51, Try.ntmps51
  go_wp2
  all_goals (go_ret; first | exact ⟨ret_b (inB_le (by assumption)).symm, rfl⟩ | exact ⟨ret_b (inB_ge (by assumption)).symm, rfl⟩)
theorem spec_l1In (n lo hi : Int) (w : World) : Calls Try.prog 37 #[.int .i64 n, .int .i64 lo, .int .i64 hi] w fun e w' => e = .returned (.bool (inB n lo hi)) ∧ w = w' := by
  go_enter Try.func37, Try.ntmps37
  go_wp2
  all_goals (go_ret; first | exact ⟨ret_b (inB_le (by assumption)).symm, rfl⟩ | exact ⟨ret_b (inB_ge (by assumption)).symm, rfl⟩)
theorem impl_isTime (n : Int) (w : World) : Calls Try.prog 90 #[.int .i64 n] w fun e w' => e = .returned (.bool (inB n 0 20000)) ∧ w = w' := by
  go_enter Try.func90, Try.ntmps90
  go_wp2_with (go_at_call 51; (with_reducible refine (impl_within _ _ _ _).mono ?_); rintro e w1 ⟨rfl, rfl⟩)
  go_ret; exact ⟨rfl, rfl⟩
theorem impl_isByte (n : Int) (w : World) : Calls Try.prog 50 #[.int .i64 n] w fun e w' => e = .returned (.bool (inB n 0 255)) ∧ w = w' := by
  go_enter Try.func50, Try.ntmps50
  go_wp2_with (go_at_call 51; (with_reducible refine (impl_within _ _ _ _).mono ?_); rintro e w1 ⟨rfl, rfl⟩)
  go_ret; exact ⟨rfl, rfl⟩
theorem spec_l5Byte (n : Int) (w : World) : Calls Try.prog 36 #[.int .i64 n] w fun e w' => e = .returned (.bool (inB n 0 255)) ∧ w = w' := by
  go_enter Try.func36, Try.ntmps36
  go_wp2_with (go_at_call 37; (with_reducible refine (spec_l1In _ _ _ _).mono ?_); rintro e w1 ⟨rfl, rfl⟩)
  go_ret; exact ⟨rfl, rfl⟩
theorem impl_Byte (n : Int) (w : World) : Calls Try.prog 119 #[.int .i64 n] w fun e w' => e = .returned (.int .i64 (n % 256)) ∧ w = w' := by
  go_enter Try.func119, Try.ntmps119
  go_wp2
  go_ret
  exact ⟨rfl, rfl⟩
theorem spec_Byte (n : Int) (w : World) : Calls Try.prog 110 #[.int .i64 n] w fun e w' => e = .returned (.int .i64 (n % 256)) ∧ w = w' := by
  go_enter Try.func110, Try.ntmps110
  go_wp2
  go_ret
  exact ⟨rfl, rfl⟩
/-- The greater, the smaller of two. -/
def gr (a b : Int) : Int := if b < a then a else b
def le (a b : Int) : Int := if a < b then a else b
/-- The frame of a time. -/
def frm (t : Int) : Int := (if t < 0 then 0 else t) / 64
theorem frm_0 (t : Int) : 0 ≤ frm t := by unfold frm; split <;> omega
theorem frm_gr (t : Int) : gr t 0 / 64 = frm t := by unfold gr frm; congr 1; split <;> split <;> omega
/-- t as a time: 0 at least, 20000 at most. -/
def tim (a : Int) : Int := if a < 0 then 0 else if 20000 < a then 20000 else a
theorem tim_bd (a : Int) : 0 ≤ tim a ∧ tim a ≤ 20000 := by unfold tim; repeat' split <;> omega
theorem impl_cyclesAhead (t r p : Int) (w : World) (h0 : 0 ≤ t) (h1 : t ≤ 20000) (h2 : 0 ≤ r) (h3 : r < p) (h4 : p ≤ 64) :
    Calls Try.prog 100 #[.int .i64 t, .int .i64 r, .int .i64 p] w fun e w' => e = .returned (.int .i64 ((t + p - 1 - r) / p)) ∧ w = w' := by
  have h5 : 0 ≤ t + p := by omega
  have h6 : 0 ≤ t + p - 1 := by omega
  have h7 : 0 ≤ t + p - 1 - r := by omega
  have h8 : (p == 0) = false := by simp; omega
  have h9 : 0 < p := by omega
  have h10 : ¬ p = 0 := by omega
  go_enter Try.func100, Try.ntmps100
  go_wp2
  go_ret
  exact ⟨rfl, rfl⟩
/-- Is there a cycle from a on, ahead of b, that is r by p? (a, b: times) -/
def cyc (a b r p : Int) : Bool := decide ((tim a + p - 1 - r) / p < (tim b + p - 1 - r) / p)
structure ApuD where (t p c b l : Int) (k i : Bool)
def ApuD.ok (a : ApuD) : Bool := inB a.t 0 20000 && inB a.p 0 255 && inB a.c 0 255 && inB a.b 0 1 && inB a.l 0 31
theorem ApuD.ok_iff (a : ApuD) : a.ok = true ↔ 0 ≤ a.t ∧ a.t ≤ 20000 ∧ 0 ≤ a.p ∧ a.p ≤ 255 ∧ 0 ≤ a.c ∧ a.c ≤ 255 ∧ 0 ≤ a.b ∧ a.b ≤ 1 ∧ 0 ≤ a.l ∧ a.l ≤ 31 := by
  simp only [ApuD.ok, Bool.and_eq_true, inB_iff, and_assoc]
def ApuD.zero : ApuD := ⟨0, 0, 0, 0, 0, false, false⟩
def ApuD.write (a : ApuD) (r v : Int) : ApuD :=
  if a.ok = true then
    if r = 0 then { a with p := v % 256 }
    else if r = 1 then { a with l := v % 32 }
    else if r = 2 then { a with k := (v % 2 == 1), i := a.i && (v % 2 == 1) }
    else if r = 3 then { a with i := false }
    else a
  else a
def ApuD.read (a : ApuD) (r : Int) : ApuD := if r = 2 ∧ a.ok = true then { a with i := false } else a
def ApuD.says (a : ApuD) (r : Int) : Int := if r = 2 ∧ a.ok = true then 128 * (if a.i = true then 1 else 0) + (if 0 < a.l then 1 else 0) else 0
/-- A cycle. -/
def ApuD.beat (a : ApuD) : Bool := decide (a.t % 32 = 0 ∧ 0 < a.l)
def ApuD.loud (a : ApuD) : Bool := decide (0 < a.l)
def ApuD.out (a : ApuD) : Bool := decide (a.l - 1 = 0)
def ApuD.tk (a : ApuD) : ApuD :=
  { t := a.t + 1, p := a.p, c := if a.c = 0 then a.p else a.c - 1, b := if a.c = 0 then (if a.loud = true then 1 - a.b else a.b) else a.b
    l := if a.beat = true then a.l - 1 else a.l, k := a.k
    i := if a.beat = true then (if a.i = true then true else if a.out = true then a.k else false) else a.i }
theorem ApuD.loud_t {a : ApuD} (h : a.loud = true) : 0 < a.l := by simpa [ApuD.loud] using h
theorem ApuD.loud_f {a : ApuD} (h : a.loud = false) : ¬ 0 < a.l := by simpa [ApuD.loud] using h
theorem ApuD.out_t {a : ApuD} (h : a.out = true) : a.l - 1 = 0 := by simpa [ApuD.out] using h
theorem ApuD.out_f {a : ApuD} (h : a.out = false) : ¬ a.l - 1 = 0 := by simpa [ApuD.out] using h
theorem ApuD.beat_t {a : ApuD} (h : a.beat = true) : a.t % 32 = 0 ∧ 0 < a.l := by simpa [ApuD.beat] using h
def ApuD.told (a : ApuD) : Bool := a.t % 16 == 15
def ApuD.smp (a : ApuD) : Int := if a.t % 16 = 15 ∧ 0 < a.tk.l then 8 * a.tk.b else 0
def ApuD.tick (a : ApuD) : ApuD := if a.ok = true then (if a.t = 20000 then a else a.tk) else ApuD.zero
def ApuD.tickN (a : ApuD) : Int := if a.ok = true then (if a.t = 20000 then 0 else a.smp) else 0
def ApuD.tickB (a : ApuD) : Bool := if a.ok = true then (if a.t = 20000 then false else a.told) else false
theorem laws_toApu (a : ApuD) (w : World) : Calls Try.prog 42 #[.agg #[.int .i64 a.t, .int .i64 a.p, .int .i64 a.c, .int .i64 a.b, .int .i64 a.l, .bool a.k, .bool a.i]] w fun e w' => e = .returned (.agg #[.int .i64 a.t, .int .i64 a.p, .int .i64 a.c, .int .i64 a.b, .int .i64 a.l, .bool a.k, .bool a.i]) ∧ Below w.heap.size w w' := by
  have H := St.nil w []
  go_enter Try.func42, Try.ntmps42
  go_wp2_with (first | ((with_reducible refine g_box rfl ?_); (first | refine ev_box (v := .int _ _) H rfl rfl rfl rfl ?_ | refine ev_box (v := .bool _) H rfl rfl rfl rfl ?_ | refine ev_box (v := .slice _ _ _) H rfl rfl rfl rfl ?_ | refine ev_box (v := .agg _) H rfl rfl rfl rfl ?_); intro g_ W_ H_; (clear H; have H := H_; clear H_)) | ((with_reducible refine g_alloc rfl ?_); refine ev_new H rfl rfl ?_; intro g_ W_ H_; (clear H; have H := H_; clear H_)) | ((with_reducible refine g_load rfl ?_); first | refine ev_ld1 H rfl rfl rfl ?_ | refine ev_lda H rfl rfl rfl ?_) | ((with_reducible refine g_store rfl ?_); (first | refine ev_sto (v := .int _ _) H rfl rfl rfl rfl rfl ?_ | refine ev_sto (v := .bool _) H rfl rfl rfl rfl rfl ?_ | refine ev_sto (v := .slice _ _ _) H rfl rfl rfl rfl rfl ?_ | refine ev_sto (v := .agg _) H rfl rfl rfl rfl rfl ?_); intro W_ H_; (clear H; have H := H_; clear H_)))
  refine' back1 Try.results42 ?_ rfl ⟨?_, H.below⟩; rotate_left 1; (focus first | (with_reducible exact rv_tmp rfl) | (refine' rv_agg H rfl ?_ ?_ ?_; rotate_left 4; (focus (repeat (first | (with_reducible exact Pick.here) | (with_reducible apply Pick.there)))); (focus exact aggT rfl); (focus rfl)) | (refine' rv_one H rfl ?_ ?_; rotate_left 3; (focus (repeat (first | (with_reducible exact Pick.here) | (with_reducible apply Pick.there)))); (focus exact oneT rfl)))
  rfl
theorem laws_eqApu (a : ApuD) (w : World) : Calls Try.prog 57 #[.agg #[.int .i64 a.t, .int .i64 a.p, .int .i64 a.c, .int .i64 a.b, .int .i64 a.l, .bool a.k, .bool a.i], .agg #[.int .i64 a.t, .int .i64 a.p, .int .i64 a.c, .int .i64 a.b, .int .i64 a.l, .bool a.k, .bool a.i]] w fun e w' => e = .returned (.bool true) ∧ Below w.heap.size w w' := by
  have H := St.nil w []
  go_enter Try.func57, Try.ntmps57
  go_wp2_with (first | ((with_reducible refine g_box rfl ?_); (first | refine ev_box (v := .int _ _) H rfl rfl rfl rfl ?_ | refine ev_box (v := .bool _) H rfl rfl rfl rfl ?_ | refine ev_box (v := .slice _ _ _) H rfl rfl rfl rfl ?_ | refine ev_box (v := .agg _) H rfl rfl rfl rfl ?_); intro g_ W_ H_; (clear H; have H := H_; clear H_)) | ((with_reducible refine g_alloc rfl ?_); refine ev_new H rfl rfl ?_; intro g_ W_ H_; (clear H; have H := H_; clear H_)) | ((with_reducible refine g_load rfl ?_); first | refine ev_ld1 H rfl rfl rfl ?_ | refine ev_lda H rfl rfl rfl ?_) | ((with_reducible refine g_store rfl ?_); (first | refine ev_sto (v := .int _ _) H rfl rfl rfl rfl rfl ?_ | refine ev_sto (v := .bool _) H rfl rfl rfl rfl rfl ?_ | refine ev_sto (v := .slice _ _ _) H rfl rfl rfl rfl rfl ?_ | refine ev_sto (v := .agg _) H rfl rfl rfl rfl rfl ?_); intro W_ H_; (clear H; have H := H_; clear H_)))
  all_goals (go_ret; exact ⟨rfl, H.below⟩)
theorem impl_ApuOk (a : ApuD) (w : World) : Calls Try.prog 49 #[.agg #[.int .i64 a.t, .int .i64 a.p, .int .i64 a.c, .int .i64 a.b, .int .i64 a.l, .bool a.k, .bool a.i]] w fun e w' => e = .returned (.bool a.ok) ∧ Below w.heap.size w w' := by
  go_enter Try.func49, Try.ntmps49
  go_wp2_with (first | (go_at_call 90; (with_reducible refine (impl_isTime _ _).mono ?_); rintro e w1 ⟨rfl, rfl⟩) | (go_at_call 50; (with_reducible refine (impl_isByte _ _).mono ?_); rintro e w1 ⟨rfl, rfl⟩) | (go_at_call 51; (with_reducible refine (impl_within _ _ _ _).mono ?_); rintro e w1 ⟨rfl, rfl⟩))
  all_goals (go_ret; exact ⟨ret_b (by simp [ApuD.ok, *]), by repeat (first | exact Below.refl _ _ | apply bA | apply bD | apply bd)⟩)
theorem spec_ApuOk (a : ApuD) (w : World) : Calls Try.prog 35 #[.agg #[.int .i64 a.t, .int .i64 a.p, .int .i64 a.c, .int .i64 a.b, .int .i64 a.l, .bool a.k, .bool a.i]] w fun e w' => e = .returned (.bool a.ok) ∧ Below w.heap.size w w' := by
  go_enter Try.func35, Try.ntmps35
  go_wp2_with (first | (go_at_call 36; (with_reducible refine (spec_l5Byte _ _).mono ?_); rintro e w1 ⟨rfl, rfl⟩) | (go_at_call 37; (with_reducible refine (spec_l1In _ _ _ _).mono ?_); rintro e w1 ⟨rfl, rfl⟩))
  all_goals (go_ret; exact ⟨ret_b (by simp [ApuD.ok, *]), by repeat (first | exact Below.refl _ _ | apply bA | apply bD | apply bd)⟩)
end Go.Proofs.Ytjgggmcnbdjdjaa.B
