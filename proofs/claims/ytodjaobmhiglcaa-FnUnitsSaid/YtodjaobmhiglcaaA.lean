/- What the small functions of the program tell: numbers, times, the sound unit. -/
import Derived.Test.YtodjaobmhiglcaaH
namespace Go.Proofs.Ytodjaobmhiglcaa.B
open Go.RowKit Go.Proofs.Ytodjaobmhiglcaa.K
attribute [local go_sem] max2_int min2_int max_two min_two i64_and255 i64_and65535 i64_and1
set_option maxRecDepth 20000
set_option linter.unusedVariables false
set_option linter.unusedSimpArgs false

/-! ## numbers -/
theorem impl_within (n lo hi : Int) (w : World) : Calls Try.prog 92 #[.int .i64 n, .int .i64 lo, .int .i64 hi] w fun e w' => e = .returned (.bool (inB n lo hi)) ∧ w = w' := by
  go_enter Try.func92, Try.ntmps92
  go_wp2
  all_goals (go_ret; first | exact ⟨ret_b (inB_le (by assumption)).symm, rfl⟩ | exact ⟨ret_b (inB_ge (by assumption)).symm, rfl⟩)
theorem spec_l1In (n lo hi : Int) (w : World) : Calls Try.prog 96 #[.int .i64 n, .int .i64 lo, .int .i64 hi] w fun e w' => e = .returned (.bool (inB n lo hi)) ∧ w = w' := by
  go_enter Try.func96, Try.ntmps96
  go_wp2
  all_goals (go_ret; first | exact ⟨ret_b (inB_le (by assumption)).symm, rfl⟩ | exact ⟨ret_b (inB_ge (by assumption)).symm, rfl⟩)
theorem impl_isTime (n : Int) (w : World) : Calls Try.prog 90 #[.int .i64 n] w fun e w' => e = .returned (.bool (inB n 0 20000)) ∧ w = w' := by
  go_enter Try.func90, Try.ntmps90
  go_wp2_with (go_at_call 92; (with_reducible refine (impl_within _ _ _ _).mono ?_); rintro e w1 ⟨rfl, rfl⟩)
  go_ret; exact ⟨rfl, rfl⟩
theorem impl_isByte (n : Int) (w : World) : Calls Try.prog 91 #[.int .i64 n] w fun e w' => e = .returned (.bool (inB n 0 255)) ∧ w = w' := by
  go_enter Try.func91, Try.ntmps91
  go_wp2_with (go_at_call 92; (with_reducible refine (impl_within _ _ _ _).mono ?_); rintro e w1 ⟨rfl, rfl⟩)
  go_ret; exact ⟨rfl, rfl⟩
theorem spec_l5Byte (n : Int) (w : World) : Calls Try.prog 97 #[.int .i64 n] w fun e w' => e = .returned (.bool (inB n 0 255)) ∧ w = w' := by
  go_enter Try.func97, Try.ntmps97
  go_wp2_with (go_at_call 96; (with_reducible refine (spec_l1In _ _ _ _).mono ?_); rintro e w1 ⟨rfl, rfl⟩)
  go_ret; exact ⟨rfl, rfl⟩
theorem impl_Byte (n : Int) (w : World) : Calls Try.prog 125 #[.int .i64 n] w fun e w' => e = .returned (.int .i64 (n % 256)) ∧ w = w' := by
  go_enter Try.func125, Try.ntmps125
  go_wp2
  go_ret
  exact ⟨rfl, rfl⟩
theorem spec_Byte (n : Int) (w : World) : Calls Try.prog 118 #[.int .i64 n] w fun e w' => e = .returned (.int .i64 (n % 256)) ∧ w = w' := by
  go_enter Try.func118, Try.ntmps118
  go_wp2
  go_ret
  exact ⟨rfl, rfl⟩
/-- The greater, the smaller of two. -/
def gr (a b : Int) : Int := if b < a then a else b
def le (a b : Int) : Int := if a < b then a else b
theorem spec_l1Max (a b : Int) (w : World) : Calls Try.prog 122 #[.int .i64 a, .int .i64 b] w fun e w' => e = .returned (.int .i64 (gr a b)) ∧ w = w' := by
  go_enter Try.func122, Try.ntmps122
  go_wp2
  all_goals (go_ret; exact ⟨ret_i (by unfold gr; split <;> omega), rfl⟩)
/-- The frame of a time. -/
def frm (t : Int) : Int := (if t < 0 then 0 else t) / 64
theorem frm_0 (t : Int) : 0 ≤ frm t := by unfold frm; split <;> omega
theorem frm_gr (t : Int) : gr t 0 / 64 = frm t := by unfold gr frm; congr 1; split <;> split <;> omega
/-- t as a time: 0 at least, 20000 at most. -/
def tim (a : Int) : Int := if a < 0 then 0 else if 20000 < a then 20000 else a
theorem tim_bd (a : Int) : 0 ≤ tim a ∧ tim a ≤ 20000 := by unfold tim; repeat' split <;> omega
theorem impl_cyclesAhead (t r p : Int) (w : World) (h0 : 0 ≤ t) (h1 : t ≤ 20000) (h2 : 0 ≤ r) (h3 : r < p) (h4 : p ≤ 64) :
    Calls Try.prog 95 #[.int .i64 t, .int .i64 r, .int .i64 p] w fun e w' => e = .returned (.int .i64 ((t + p - 1 - r) / p)) ∧ w = w' := by
  have h5 : 0 ≤ t + p := by omega
  have h6 : 0 ≤ t + p - 1 := by omega
  have h7 : 0 ≤ t + p - 1 - r := by omega
  have h8 : (p == 0) = false := by simp; omega
  have h9 : 0 < p := by omega
  have h10 : ¬ p = 0 := by omega
  go_enter Try.func95, Try.ntmps95
  go_wp2
  go_ret
  exact ⟨rfl, rfl⟩
/-- Is there a cycle from a on, ahead of b, that is r by p? (a, b: times) -/
def cyc (a b r p : Int) : Bool := decide ((tim a + p - 1 - r) / p < (tim b + p - 1 - r) / p)
structure ApuD where (t p c b l : Int) (k i : Bool)
def ApuD.ok (a : ApuD) : Bool := inB a.t 0 20000 && inB a.p 0 255 && inB a.c 0 255 && inB a.b 0 1 && inB a.l 0 31
theorem ApuD.ok_iff (a : ApuD) : a.ok = true ↔ 0 ≤ a.t ∧ a.t ≤ 20000 ∧ 0 ≤ a.p ∧ a.p ≤ 255 ∧ 0 ≤ a.c ∧ a.c ≤ 255 ∧ 0 ≤ a.b ∧ a.b ≤ 1 ∧ 0 ≤ a.l ∧ a.l ≤ 31 := by
  simp only [ApuD.ok, Bool.and_eq_true, inB_iff, and_assoc]
def ApuD.zero : ApuD := ⟨0, 0, 0, 0, 0, false, false⟩
def ApuD.write (a : ApuD) (r v : Int) : ApuD :=
  if a.ok = true then
    if r = 0 then { a with p := v % 256 }
    else if r = 1 then { a with l := v % 32 }
    else if r = 2 then { a with k := (v % 2 == 1), i := a.i && (v % 2 == 1) }
    else if r = 3 then { a with i := false }
    else a
  else a
def ApuD.read (a : ApuD) (r : Int) : ApuD := if r = 2 ∧ a.ok = true then { a with i := false } else a
def ApuD.says (a : ApuD) (r : Int) : Int := if r = 2 ∧ a.ok = true then 128 * (if a.i = true then 1 else 0) + (if 0 < a.l then 1 else 0) else 0
/-- A cycle. -/
def ApuD.beat (a : ApuD) : Bool := decide (a.t % 32 = 0 ∧ 0 < a.l)
def ApuD.loud (a : ApuD) : Bool := decide (0 < a.l)
def ApuD.out (a : ApuD) : Bool := decide (a.l - 1 = 0)
def ApuD.tk (a : ApuD) : ApuD :=
  { t := a.t + 1, p := a.p, c := if a.c = 0 then a.p else a.c - 1, b := if a.c = 0 then (if a.loud = true then 1 - a.b else a.b) else a.b
    l := if a.beat = true then a.l - 1 else a.l, k := a.k
    i := if a.beat = true then (if a.i = true then true else if a.out = true then a.k else false) else a.i }
theorem ApuD.loud_t {a : ApuD} (h : a.loud = true) : 0 < a.l := by simpa [ApuD.loud] using h
theorem ApuD.loud_f {a : ApuD} (h : a.loud = false) : ¬ 0 < a.l := by simpa [ApuD.loud] using h
theorem ApuD.out_t {a : ApuD} (h : a.out = true) : a.l - 1 = 0 := by simpa [ApuD.out] using h
theorem ApuD.out_f {a : ApuD} (h : a.out = false) : ¬ a.l - 1 = 0 := by simpa [ApuD.out] using h
theorem ApuD.beat_t {a : ApuD} (h : a.beat = true) : a.t % 32 = 0 ∧ 0 < a.l := by simpa [ApuD.beat] using h
def ApuD.told (a : ApuD) : Bool := a.t % 16 == 15
def ApuD.smp (a : ApuD) : Int := if a.t % 16 = 15 ∧ 0 < a.tk.l then 8 * a.tk.b else 0
def ApuD.tick (a : ApuD) : ApuD := if a.ok = true then (if a.t = 20000 then a else a.tk) else ApuD.zero
def ApuD.tickN (a : ApuD) : Int := if a.ok = true then (if a.t = 20000 then 0 else a.smp) else 0
def ApuD.tickB (a : ApuD) : Bool := if a.ok = true then (if a.t = 20000 then false else a.told) else false
theorem laws_toApu (a : ApuD) (w : World) : Calls Try.prog 62 #[.agg #[.int .i64 a.t, .int .i64 a.p, .int .i64 a.c, .int .i64 a.b, .int .i64 a.l, .bool a.k, .bool a.i]] w fun e w' => e = .returned (.agg #[.int .i64 a.t, .int .i64 a.p, .int .i64 a.c, .int .i64 a.b, .int .i64 a.l, .bool a.k, .bool a.i]) ∧ Below w.heap.size w w' := by
  have H := St.nil w []
  go_enter Try.func62, Try.ntmps62
  go_wp2_with (first | ((with_reducible refine g_box rfl ?_); (first | refine ev_box (v := .int _ _) H rfl rfl rfl rfl ?_ | refine ev_box (v := .bool _) H rfl rfl rfl rfl ?_ | refine ev_box (v := .slice _ _ _) H rfl rfl rfl rfl ?_ | refine ev_box (v := .agg _) H rfl rfl rfl rfl ?_); intro g_ W_ H_; (clear H; have H := H_; clear H_)) | ((with_reducible refine g_alloc rfl ?_); refine ev_new H rfl rfl ?_; intro g_ W_ H_; (clear H; have H := H_; clear H_)) | ((with_reducible refine g_load rfl ?_); first | refine ev_ld1 H rfl rfl rfl ?_ | refine ev_lda H rfl rfl rfl ?_) | ((with_reducible refine g_store rfl ?_); (first | refine ev_sto (v := .int _ _) H rfl rfl rfl rfl rfl ?_ | refine ev_sto (v := .bool _) H rfl rfl rfl rfl rfl ?_ | refine ev_sto (v := .slice _ _ _) H rfl rfl rfl rfl rfl ?_ | refine ev_sto (v := .agg _) H rfl rfl rfl rfl rfl ?_); intro W_ H_; (clear H; have H := H_; clear H_)))
  refine' back1 Try.results62 ?_ rfl ⟨?_, H.below⟩; rotate_left 1; (focus first | (with_reducible exact rv_tmp rfl) | (refine' rv_agg H rfl ?_ ?_ ?_; rotate_left 4; (focus (repeat (first | (with_reducible exact Pick.here) | (with_reducible apply Pick.there)))); (focus exact aggT rfl); (focus rfl)) | (refine' rv_one H rfl ?_ ?_; rotate_left 3; (focus (repeat (first | (with_reducible exact Pick.here) | (with_reducible apply Pick.there)))); (focus exact oneT rfl)))
  rfl
theorem laws_eqApu (a : ApuD) (w : World) : Calls Try.prog 65 #[.agg #[.int .i64 a.t, .int .i64 a.p, .int .i64 a.c, .int .i64 a.b, .int .i64 a.l, .bool a.k, .bool a.i], .agg #[.int .i64 a.t, .int .i64 a.p, .int .i64 a.c, .int .i64 a.b, .int .i64 a.l, .bool a.k, .bool a.i]] w fun e w' => e = .returned (.bool true) ∧ Below w.heap.size w w' := by
  have H := St.nil w []
  go_enter Try.func65, Try.ntmps65
  go_wp2_with (first | ((with_reducible refine g_box rfl ?_); (first | refine ev_box (v := .int _ _) H rfl rfl rfl rfl ?_ | refine ev_box (v := .bool _) H rfl rfl rfl rfl ?_ | refine ev_box (v := .slice _ _ _) H rfl rfl rfl rfl ?_ | refine ev_box (v := .agg _) H rfl rfl rfl rfl ?_); intro g_ W_ H_; (clear H; have H := H_; clear H_)) | ((with_reducible refine g_alloc rfl ?_); refine ev_new H rfl rfl ?_; intro g_ W_ H_; (clear H; have H := H_; clear H_)) | ((with_reducible refine g_load rfl ?_); first | refine ev_ld1 H rfl rfl rfl ?_ | refine ev_lda H rfl rfl rfl ?_) | ((with_reducible refine g_store rfl ?_); (first | refine ev_sto (v := .int _ _) H rfl rfl rfl rfl rfl ?_ | refine ev_sto (v := .bool _) H rfl rfl rfl rfl rfl ?_ | refine ev_sto (v := .slice _ _ _) H rfl rfl rfl rfl rfl ?_ | refine ev_sto (v := .agg _) H rfl rfl rfl rfl rfl ?_); intro W_ H_; (clear H; have H := H_; clear H_)))
  all_goals (go_ret; exact ⟨rfl, H.below⟩)
theorem impl_ApuOk (a : ApuD) (w : World) : Calls Try.prog 51 #[.agg #[.int .i64 a.t, .int .i64 a.p, .int .i64 a.c, .int .i64 a.b, .int .i64 a.l, .bool a.k, .bool a.i]] w fun e w' => e = .returned (.bool a.ok) ∧ Below w.heap.size w w' := by
  go_enter Try.func51, Try.ntmps51
  go_wp2_with (first | (go_at_call 90; (with_reducible refine (impl_isTime _ _).mono ?_); rintro e w1 ⟨rfl, rfl⟩) | (go_at_call 91; (with_reducible refine (impl_isByte _ _).mono ?_); rintro e w1 ⟨rfl, rfl⟩) | (go_at_call 92; (with_reducible refine (impl_within _ _ _ _).mono ?_); rintro e w1 ⟨rfl, rfl⟩))
  all_goals (go_ret; exact ⟨ret_b (by simp [ApuD.ok, *]), by repeat (first | exact Below.refl _ _ | apply bA | apply bD | apply bd)⟩)
theorem spec_ApuOk (a : ApuD) (w : World) : Calls Try.prog 53 #[.agg #[.int .i64 a.t, .int .i64 a.p, .int .i64 a.c, .int .i64 a.b, .int .i64 a.l, .bool a.k, .bool a.i]] w fun e w' => e = .returned (.bool a.ok) ∧ Below w.heap.size w w' := by
  go_enter Try.func53, Try.ntmps53
  go_wp2_with (first | (go_at_call 97; (with_reducible refine (spec_l5Byte _ _).mono ?_); rintro e w1 ⟨rfl, rfl⟩) | (go_at_call 96; (with_reducible refine (spec_l1In _ _ _ _).mono ?_); rintro e w1 ⟨rfl, rfl⟩))
  all_goals (go_ret; exact ⟨ret_b (by simp [ApuD.ok, *]), by repeat (first | exact Below.refl _ _ | apply bA | apply bD | apply bd)⟩)
set_option maxHeartbeats 1000000 in
theorem impl_ApuWrite (a : ApuD) (r v : Int) (w : World) : Calls Try.prog 111 #[.agg #[.int .i64 a.t, .int .i64 a.p, .int .i64 a.c, .int .i64 a.b, .int .i64 a.l, .bool a.k, .bool a.i], .int .i64 r, .int .i64 v] w fun e w' => e = .returned (.agg #[.int .i64 (a.write r v).t, .int .i64 (a.write r v).p, .int .i64 (a.write r v).c, .int .i64 (a.write r v).b, .int .i64 (a.write r v).l, .bool (a.write r v).k, .bool (a.write r v).i]) ∧ Below w.heap.size w w' := by
  have H := St.nil w []
  go_enter Try.func111, Try.ntmps111
  go_wp2_with (first | ((with_reducible refine g_box rfl ?_); (first | refine ev_box (v := .int _ _) H rfl rfl rfl rfl ?_ | refine ev_box (v := .bool _) H rfl rfl rfl rfl ?_ | refine ev_box (v := .slice _ _ _) H rfl rfl rfl rfl ?_ | refine ev_box (v := .agg _) H rfl rfl rfl rfl ?_); intro g_ W_ H_; (clear H; have H := H_; clear H_)) | ((with_reducible refine g_alloc rfl ?_); refine ev_new H rfl rfl ?_; intro g_ W_ H_; (clear H; have H := H_; clear H_)) | ((with_reducible refine g_load rfl ?_); first | refine ev_ld1 H rfl rfl rfl ?_ | refine ev_lda H rfl rfl rfl ?_) | ((with_reducible refine g_store rfl ?_); (first | refine ev_sto (v := .int _ _) H rfl rfl rfl rfl rfl ?_ | refine ev_sto (v := .bool _) H rfl rfl rfl rfl rfl ?_ | refine ev_sto (v := .slice _ _ _) H rfl rfl rfl rfl rfl ?_ | refine ev_sto (v := .agg _) H rfl rfl rfl rfl rfl ?_); intro W_ H_; (clear H; have H := H_; clear H_)) | (go_at_call 51; (with_reducible refine (impl_ApuOk a _).mono ?_); rintro e w1 ⟨rfl, hb⟩; (have H_ := H.callB hb; (clear H; have H := H_; clear H_); clear hb)) | (go_at_call 125; (with_reducible refine (impl_Byte _ _).mono ?_); rintro e w1 ⟨rfl, rfl⟩))
  all_goals (refine' back1 Try.results111 ?_ rfl ⟨?_, H.below⟩; rotate_left 1; (focus first | (with_reducible exact rv_tmp rfl) | (refine' rv_agg H rfl ?_ ?_ ?_; rotate_left 4; (focus (repeat (first | (with_reducible exact Pick.here) | (with_reducible apply Pick.there)))); (focus exact aggT rfl); (focus rfl)) | (refine' rv_one H rfl ?_ ?_; rotate_left 3; (focus (repeat (first | (with_reducible exact Pick.here) | (with_reducible apply Pick.there)))); (focus exact oneT rfl))); clear H; simp_all [ApuD.write])
set_option maxHeartbeats 1000000 in
theorem spec_ApuWrite (a : ApuD) (r v : Int) (w : World) : Calls Try.prog 101 #[.agg #[.int .i64 a.t, .int .i64 a.p, .int .i64 a.c, .int .i64 a.b, .int .i64 a.l, .bool a.k, .bool a.i], .int .i64 r, .int .i64 v] w fun e w' => e = .returned (.agg #[.int .i64 (a.write r v).t, .int .i64 (a.write r v).p, .int .i64 (a.write r v).c, .int .i64 (a.write r v).b, .int .i64 (a.write r v).l, .bool (a.write r v).k, .bool (a.write r v).i]) ∧ Below w.heap.size w w' := by
  have H := St.nil w []
  go_enter Try.func101, Try.ntmps101
  go_wp2_with (first | ((with_reducible refine g_box rfl ?_); (first | refine ev_box (v := .int _ _) H rfl rfl rfl rfl ?_ | refine ev_box (v := .bool _) H rfl rfl rfl rfl ?_ | refine ev_box (v := .slice _ _ _) H rfl rfl rfl rfl ?_ | refine ev_box (v := .agg _) H rfl rfl rfl rfl ?_); intro g_ W_ H_; (clear H; have H := H_; clear H_)) | ((with_reducible refine g_alloc rfl ?_); refine ev_new H rfl rfl ?_; intro g_ W_ H_; (clear H; have H := H_; clear H_)) | ((with_reducible refine g_load rfl ?_); first | refine ev_ld1 H rfl rfl rfl ?_ | refine ev_lda H rfl rfl rfl ?_) | ((with_reducible refine g_store rfl ?_); (first | refine ev_sto (v := .int _ _) H rfl rfl rfl rfl rfl ?_ | refine ev_sto (v := .bool _) H rfl rfl rfl rfl rfl ?_ | refine ev_sto (v := .slice _ _ _) H rfl rfl rfl rfl rfl ?_ | refine ev_sto (v := .agg _) H rfl rfl rfl rfl rfl ?_); intro W_ H_; (clear H; have H := H_; clear H_)) | (go_at_call 53; (with_reducible refine (spec_ApuOk a _).mono ?_); rintro e w1 ⟨rfl, hb⟩; (have H_ := H.callB hb; (clear H; have H := H_; clear H_); clear hb)) | (go_at_call 118; (with_reducible refine (spec_Byte _ _).mono ?_); rintro e w1 ⟨rfl, rfl⟩))
  all_goals (refine' back1 Try.results101 ?_ rfl ⟨?_, H.below⟩; rotate_left 1; (focus first | (with_reducible exact rv_tmp rfl) | (refine' rv_agg H rfl ?_ ?_ ?_; rotate_left 4; (focus (repeat (first | (with_reducible exact Pick.here) | (with_reducible apply Pick.there)))); (focus exact aggT rfl); (focus rfl)) | (refine' rv_one H rfl ?_ ?_; rotate_left 3; (focus (repeat (first | (with_reducible exact Pick.here) | (with_reducible apply Pick.there)))); (focus exact oneT rfl))); clear H; simp_all [ApuD.write])
set_option maxRecDepth 100000 in
set_option maxHeartbeats 4000000 in
theorem impl_Apu_tick (a : ApuD) (g : Nat) (w : World) (hok : a.ok = true) (H0 : Hol w [Ast.blk g [.int .i64 a.t, .int .i64 a.p, .int .i64 a.c, .int .i64 a.b, .int .i64 a.l, .bool a.k, .bool a.i] 38]) : Calls Try.prog 112 #[.pointer (some ⟨g, 0, none⟩)] w fun e w' => e = .returned (.tuple #[.int .i64 a.smp, .bool a.told]) ∧ St w [g] w' [Ast.blk g [.int .i64 a.tk.t, .int .i64 a.tk.p, .int .i64 a.tk.c, .int .i64 a.tk.b, .int .i64 a.tk.l, .bool a.tk.k, .bool a.tk.i] 38] := by
  have H := H0.st
  clear H0
  obtain ⟨b1, b2, b3, b4, b5, b6, b7, b8, b9, b10⟩ := a.ok_iff.1 hok
  clear hok
  go_enter Try.func112, Try.ntmps112
  go_upto_if 9 with (first | ((with_reducible refine g_box rfl ?_); (first | refine ev_box (v := .int _ _) H rfl rfl rfl rfl ?_ | refine ev_box (v := .bool _) H rfl rfl rfl rfl ?_ | refine ev_box (v := .slice _ _ _) H rfl rfl rfl rfl ?_ | refine ev_box (v := .agg _) H rfl rfl rfl rfl ?_); intro g_ W_ H_; (clear H; have H := H_; clear H_)) | ((with_reducible refine g_alloc rfl ?_); refine ev_new H rfl rfl ?_; intro g_ W_ H_; (clear H; have H := H_; clear H_)) | ((with_reducible refine g_load rfl ?_); first | refine ev_ld1 H rfl rfl rfl ?_ | refine ev_lda H rfl rfl rfl ?_) | ((with_reducible refine g_store rfl ?_); (first | refine ev_sto (v := .int _ _) H rfl rfl rfl rfl rfl ?_ | refine ev_sto (v := .bool _) H rfl rfl rfl rfl rfl ?_ | refine ev_sto (v := .slice _ _ _) H rfl rfl rfl rfl rfl ?_ | refine ev_sto (v := .agg _) H rfl rfl rfl rfl rfl ?_); intro W_ H_; (clear H; have H := H_; clear H_)))
  go_cut [] (fun wc => St w [g] wc [Ast.blk g [.int .i64 a.t, .int .i64 a.p, .int .i64 a.tk.c, .int .i64 a.tk.b, .int .i64 a.l, .bool a.k, .bool a.i] 38])
  case first =>
    by_cases h1 : a.c = 0
    · cases h2 : a.loud
      · have h3 : decide (0 < a.l) = false := decide_eq_false (ApuD.loud_f h2)
        go_wp2_with (first | ((with_reducible refine g_box rfl ?_); (first | refine ev_box (v := .int _ _) H rfl rfl rfl rfl ?_ | refine ev_box (v := .bool _) H rfl rfl rfl rfl ?_ | refine ev_box (v := .slice _ _ _) H rfl rfl rfl rfl ?_ | refine ev_box (v := .agg _) H rfl rfl rfl rfl ?_); intro g_ W_ H_; (clear H; have H := H_; clear H_)) | ((with_reducible refine g_alloc rfl ?_); refine ev_new H rfl rfl ?_; intro g_ W_ H_; (clear H; have H := H_; clear H_)) | ((with_reducible refine g_load rfl ?_); first | refine ev_ld1 H rfl rfl rfl ?_ | refine ev_lda H rfl rfl rfl ?_) | ((with_reducible refine g_store rfl ?_); (first | refine ev_sto (v := .int _ _) H rfl rfl rfl rfl rfl ?_ | refine ev_sto (v := .bool _) H rfl rfl rfl rfl rfl ?_ | refine ev_sto (v := .slice _ _ _) H rfl rfl rfl rfl rfl ?_ | refine ev_sto (v := .agg _) H rfl rfl rfl rfl rfl ?_); intro W_ H_; (clear H; have H := H_; clear H_)))
        all_goals (go_meet; case rel => exact H.cast (by simp [ApuD.tk, *]))
      · have h3 : decide (0 < a.l) = true := decide_eq_true (ApuD.loud_t h2)
        go_wp2_with (first | ((with_reducible refine g_box rfl ?_); (first | refine ev_box (v := .int _ _) H rfl rfl rfl rfl ?_ | refine ev_box (v := .bool _) H rfl rfl rfl rfl ?_ | refine ev_box (v := .slice _ _ _) H rfl rfl rfl rfl ?_ | refine ev_box (v := .agg _) H rfl rfl rfl rfl ?_); intro g_ W_ H_; (clear H; have H := H_; clear H_)) | ((with_reducible refine g_alloc rfl ?_); refine ev_new H rfl rfl ?_; intro g_ W_ H_; (clear H; have H := H_; clear H_)) | ((with_reducible refine g_load rfl ?_); first | refine ev_ld1 H rfl rfl rfl ?_ | refine ev_lda H rfl rfl rfl ?_) | ((with_reducible refine g_store rfl ?_); (first | refine ev_sto (v := .int _ _) H rfl rfl rfl rfl rfl ?_ | refine ev_sto (v := .bool _) H rfl rfl rfl rfl rfl ?_ | refine ev_sto (v := .slice _ _ _) H rfl rfl rfl rfl rfl ?_ | refine ev_sto (v := .agg _) H rfl rfl rfl rfl rfl ?_); intro W_ H_; (clear H; have H := H_; clear H_)))
        all_goals (go_meet; case rel => exact H.cast (by simp [ApuD.tk, *]))
    · go_wp2_with (first | ((with_reducible refine g_box rfl ?_); (first | refine ev_box (v := .int _ _) H rfl rfl rfl rfl ?_ | refine ev_box (v := .bool _) H rfl rfl rfl rfl ?_ | refine ev_box (v := .slice _ _ _) H rfl rfl rfl rfl ?_ | refine ev_box (v := .agg _) H rfl rfl rfl rfl ?_); intro g_ W_ H_; (clear H; have H := H_; clear H_)) | ((with_reducible refine g_alloc rfl ?_); refine ev_new H rfl rfl ?_; intro g_ W_ H_; (clear H; have H := H_; clear H_)) | ((with_reducible refine g_load rfl ?_); first | refine ev_ld1 H rfl rfl rfl ?_ | refine ev_lda H rfl rfl rfl ?_) | ((with_reducible refine g_store rfl ?_); (first | refine ev_sto (v := .int _ _) H rfl rfl rfl rfl rfl ?_ | refine ev_sto (v := .bool _) H rfl rfl rfl rfl rfl ?_ | refine ev_sto (v := .slice _ _ _) H rfl rfl rfl rfl rfl ?_ | refine ev_sto (v := .agg _) H rfl rfl rfl rfl rfl ?_); intro W_ H_; (clear H; have H := H_; clear H_)))
      all_goals (go_meet; case rel => exact H.cast (by simp [ApuD.tk, *]))
  case rest =>
    clear H
    have H := hcut
    clear hcut
    go_upto_region 6 with (fail)
    go_cut [49] (fun v wc => v = .bool a.beat ∧ St w [g] wc [Ast.blk g [.int .i64 a.t, .int .i64 a.p, .int .i64 a.tk.c, .int .i64 a.tk.b, .int .i64 a.l, .bool a.k, .bool a.i] 38])
    case first =>
      by_cases h3 : a.t % 32 = 0
      all_goals
        go_wp2_with (first | ((with_reducible refine g_box rfl ?_); (first | refine ev_box (v := .int _ _) H rfl rfl rfl rfl ?_ | refine ev_box (v := .bool _) H rfl rfl rfl rfl ?_ | refine ev_box (v := .slice _ _ _) H rfl rfl rfl rfl ?_ | refine ev_box (v := .agg _) H rfl rfl rfl rfl ?_); intro g_ W_ H_; (clear H; have H := H_; clear H_)) | ((with_reducible refine g_alloc rfl ?_); refine ev_new H rfl rfl ?_; intro g_ W_ H_; (clear H; have H := H_; clear H_)) | ((with_reducible refine g_load rfl ?_); first | refine ev_ld1 H rfl rfl rfl ?_ | refine ev_lda H rfl rfl rfl ?_) | ((with_reducible refine g_store rfl ?_); (first | refine ev_sto (v := .int _ _) H rfl rfl rfl rfl rfl ?_ | refine ev_sto (v := .bool _) H rfl rfl rfl rfl rfl ?_ | refine ev_sto (v := .slice _ _ _) H rfl rfl rfl rfl rfl ?_ | refine ev_sto (v := .agg _) H rfl rfl rfl rfl rfl ?_); intro W_ H_; (clear H; have H := H_; clear H_)))
        all_goals (go_meet; case rel => exact ⟨by simp [ApuD.beat, h3], H⟩)
    case rest =>
      clear H
      obtain ⟨rfl, H⟩ := hcut
      go_upto_if 49 with (fail)
      go_cut [] (fun wc => St w [g] wc [Ast.blk g [.int .i64 a.t, .int .i64 a.p, .int .i64 a.tk.c, .int .i64 a.tk.b, .int .i64 a.tk.l, .bool a.k, .bool a.tk.i] 38])
      case first =>
        cases hb : a.beat
        · go_wp2_with (first | ((with_reducible refine g_box rfl ?_); (first | refine ev_box (v := .int _ _) H rfl rfl rfl rfl ?_ | refine ev_box (v := .bool _) H rfl rfl rfl rfl ?_ | refine ev_box (v := .slice _ _ _) H rfl rfl rfl rfl ?_ | refine ev_box (v := .agg _) H rfl rfl rfl rfl ?_); intro g_ W_ H_; (clear H; have H := H_; clear H_)) | ((with_reducible refine g_alloc rfl ?_); refine ev_new H rfl rfl ?_; intro g_ W_ H_; (clear H; have H := H_; clear H_)) | ((with_reducible refine g_load rfl ?_); first | refine ev_ld1 H rfl rfl rfl ?_ | refine ev_lda H rfl rfl rfl ?_) | ((with_reducible refine g_store rfl ?_); (first | refine ev_sto (v := .int _ _) H rfl rfl rfl rfl rfl ?_ | refine ev_sto (v := .bool _) H rfl rfl rfl rfl rfl ?_ | refine ev_sto (v := .slice _ _ _) H rfl rfl rfl rfl rfl ?_ | refine ev_sto (v := .agg _) H rfl rfl rfl rfl rfl ?_); intro W_ H_; (clear H; have H := H_; clear H_)))
          all_goals (go_meet; case rel => exact H.cast (by simp [ApuD.tk, *]))
        · have h4 := (ApuD.beat_t hb).2
          cases hi : a.i
          · cases ho : a.out
            · have h5 : (a.l - 1 == 0) = false := by simpa using ApuD.out_f ho
              go_wp2_with (first | ((with_reducible refine g_box rfl ?_); (first | refine ev_box (v := .int _ _) H rfl rfl rfl rfl ?_ | refine ev_box (v := .bool _) H rfl rfl rfl rfl ?_ | refine ev_box (v := .slice _ _ _) H rfl rfl rfl rfl ?_ | refine ev_box (v := .agg _) H rfl rfl rfl rfl ?_); intro g_ W_ H_; (clear H; have H := H_; clear H_)) | ((with_reducible refine g_alloc rfl ?_); refine ev_new H rfl rfl ?_; intro g_ W_ H_; (clear H; have H := H_; clear H_)) | ((with_reducible refine g_load rfl ?_); first | refine ev_ld1 H rfl rfl rfl ?_ | refine ev_lda H rfl rfl rfl ?_) | ((with_reducible refine g_store rfl ?_); (first | refine ev_sto (v := .int _ _) H rfl rfl rfl rfl rfl ?_ | refine ev_sto (v := .bool _) H rfl rfl rfl rfl rfl ?_ | refine ev_sto (v := .slice _ _ _) H rfl rfl rfl rfl rfl ?_ | refine ev_sto (v := .agg _) H rfl rfl rfl rfl rfl ?_); intro W_ H_; (clear H; have H := H_; clear H_)))
              all_goals (go_meet; case rel => exact H.cast (by simp [ApuD.tk, *]))
            · have h5 : (a.l - 1 == 0) = true := by simpa using ApuD.out_t ho
              go_wp2_with (first | ((with_reducible refine g_box rfl ?_); (first | refine ev_box (v := .int _ _) H rfl rfl rfl rfl ?_ | refine ev_box (v := .bool _) H rfl rfl rfl rfl ?_ | refine ev_box (v := .slice _ _ _) H rfl rfl rfl rfl ?_ | refine ev_box (v := .agg _) H rfl rfl rfl rfl ?_); intro g_ W_ H_; (clear H; have H := H_; clear H_)) | ((with_reducible refine g_alloc rfl ?_); refine ev_new H rfl rfl ?_; intro g_ W_ H_; (clear H; have H := H_; clear H_)) | ((with_reducible refine g_load rfl ?_); first | refine ev_ld1 H rfl rfl rfl ?_ | refine ev_lda H rfl rfl rfl ?_) | ((with_reducible refine g_store rfl ?_); (first | refine ev_sto (v := .int _ _) H rfl rfl rfl rfl rfl ?_ | refine ev_sto (v := .bool _) H rfl rfl rfl rfl rfl ?_ | refine ev_sto (v := .slice _ _ _) H rfl rfl rfl rfl rfl ?_ | refine ev_sto (v := .agg _) H rfl rfl rfl rfl rfl ?_); intro W_ H_; (clear H; have H := H_; clear H_)))
              all_goals (go_meet; case rel => exact H.cast (by simp [ApuD.tk, *]))
          · go_wp2_with (first | ((with_reducible refine g_box rfl ?_); (first | refine ev_box (v := .int _ _) H rfl rfl rfl rfl ?_ | refine ev_box (v := .bool _) H rfl rfl rfl rfl ?_ | refine ev_box (v := .slice _ _ _) H rfl rfl rfl rfl ?_ | refine ev_box (v := .agg _) H rfl rfl rfl rfl ?_); intro g_ W_ H_; (clear H; have H := H_; clear H_)) | ((with_reducible refine g_alloc rfl ?_); refine ev_new H rfl rfl ?_; intro g_ W_ H_; (clear H; have H := H_; clear H_)) | ((with_reducible refine g_load rfl ?_); first | refine ev_ld1 H rfl rfl rfl ?_ | refine ev_lda H rfl rfl rfl ?_) | ((with_reducible refine g_store rfl ?_); (first | refine ev_sto (v := .int _ _) H rfl rfl rfl rfl rfl ?_ | refine ev_sto (v := .bool _) H rfl rfl rfl rfl rfl ?_ | refine ev_sto (v := .slice _ _ _) H rfl rfl rfl rfl rfl ?_ | refine ev_sto (v := .agg _) H rfl rfl rfl rfl rfl ?_); intro W_ H_; (clear H; have H := H_; clear H_)))
            all_goals (go_meet; case rel => exact H.cast (by simp [ApuD.tk, *]))
      case rest =>
        clear H
        have H := hcut
        clear hcut
        have h6 : (a.t % 16 = 15 ∧ (a.t % 16 == 15) = true) ∨ (¬ a.t % 16 = 15 ∧ (a.t % 16 == 15) = false) := by by_cases h : a.t % 16 = 15 <;> simp [h]
        have h7 : 0 ≤ a.tk.b ∧ a.tk.b ≤ 1 := by simp only [ApuD.tk]; repeat' split <;> omega
        obtain ⟨h7, h8⟩ := h7
        have h9 : 0 ≤ a.tk.l := by simp only [ApuD.tk]; split <;> first | omega | (rename_i h; have := (ApuD.beat_t h).2; omega)
        have h10 : (a.tk.l = 0 ∧ (a.tk.l == 0) = true) ∨ (0 < a.tk.l ∧ (a.tk.l == 0) = false) := by by_cases h : a.tk.l = 0 <;> simp [h] <;> omega
        have ht : a.tk.t = a.t + 1 := rfl
        rcases h6 with ⟨h11, h12⟩ | ⟨h11, h12⟩
        · rcases h10 with ⟨h13, h14⟩ | ⟨h13, h14⟩
          all_goals
            go_wp2_with (first | ((with_reducible refine g_box rfl ?_); (first | refine ev_box (v := .int _ _) H rfl rfl rfl rfl ?_ | refine ev_box (v := .bool _) H rfl rfl rfl rfl ?_ | refine ev_box (v := .slice _ _ _) H rfl rfl rfl rfl ?_ | refine ev_box (v := .agg _) H rfl rfl rfl rfl ?_); intro g_ W_ H_; (clear H; have H := H_; clear H_)) | ((with_reducible refine g_alloc rfl ?_); refine ev_new H rfl rfl ?_; intro g_ W_ H_; (clear H; have H := H_; clear H_)) | ((with_reducible refine g_load rfl ?_); first | refine ev_ld1 H rfl rfl rfl ?_ | refine ev_lda H rfl rfl rfl ?_) | ((with_reducible refine g_store rfl ?_); (first | refine ev_sto (v := .int _ _) H rfl rfl rfl rfl rfl ?_ | refine ev_sto (v := .bool _) H rfl rfl rfl rfl rfl ?_ | refine ev_sto (v := .slice _ _ _) H rfl rfl rfl rfl rfl ?_ | refine ev_sto (v := .agg _) H rfl rfl rfl rfl rfl ?_); intro W_ H_; (clear H; have H := H_; clear H_)))
            all_goals (refine' back2 Try.results112 ?_ ?_ rfl ⟨?_, H⟩; rotate_left 2; (focus first | (with_reducible exact rv_tmp rfl) | (refine' rv_agg H rfl ?_ ?_ ?_; rotate_left 4; (focus (repeat (first | (with_reducible exact Pick.here) | (with_reducible apply Pick.there)))); (focus exact aggT rfl); (focus rfl)) | (refine' rv_one H rfl ?_ ?_; rotate_left 3; (focus (repeat (first | (with_reducible exact Pick.here) | (with_reducible apply Pick.there)))); (focus exact oneT rfl))); (focus first | (with_reducible exact rv_tmp rfl) | (refine' rv_agg H rfl ?_ ?_ ?_; rotate_left 4; (focus (repeat (first | (with_reducible exact Pick.here) | (with_reducible apply Pick.there)))); (focus exact aggT rfl); (focus rfl)) | (refine' rv_one H rfl ?_ ?_; rotate_left 3; (focus (repeat (first | (with_reducible exact Pick.here) | (with_reducible apply Pick.there)))); (focus exact oneT rfl))); simp [ApuD.smp, ApuD.told, *])
        · go_wp2_with (first | ((with_reducible refine g_box rfl ?_); (first | refine ev_box (v := .int _ _) H rfl rfl rfl rfl ?_ | refine ev_box (v := .bool _) H rfl rfl rfl rfl ?_ | refine ev_box (v := .slice _ _ _) H rfl rfl rfl rfl ?_ | refine ev_box (v := .agg _) H rfl rfl rfl rfl ?_); intro g_ W_ H_; (clear H; have H := H_; clear H_)) | ((with_reducible refine g_alloc rfl ?_); refine ev_new H rfl rfl ?_; intro g_ W_ H_; (clear H; have H := H_; clear H_)) | ((with_reducible refine g_load rfl ?_); first | refine ev_ld1 H rfl rfl rfl ?_ | refine ev_lda H rfl rfl rfl ?_) | ((with_reducible refine g_store rfl ?_); (first | refine ev_sto (v := .int _ _) H rfl rfl rfl rfl rfl ?_ | refine ev_sto (v := .bool _) H rfl rfl rfl rfl rfl ?_ | refine ev_sto (v := .slice _ _ _) H rfl rfl rfl rfl rfl ?_ | refine ev_sto (v := .agg _) H rfl rfl rfl rfl rfl ?_); intro W_ H_; (clear H; have H := H_; clear H_)))
          all_goals (refine' back2 Try.results112 ?_ ?_ rfl ⟨?_, H⟩; rotate_left 2; (focus first | (with_reducible exact rv_tmp rfl) | (refine' rv_agg H rfl ?_ ?_ ?_; rotate_left 4; (focus (repeat (first | (with_reducible exact Pick.here) | (with_reducible apply Pick.there)))); (focus exact aggT rfl); (focus rfl)) | (refine' rv_one H rfl ?_ ?_; rotate_left 3; (focus (repeat (first | (with_reducible exact Pick.here) | (with_reducible apply Pick.there)))); (focus exact oneT rfl))); (focus first | (with_reducible exact rv_tmp rfl) | (refine' rv_agg H rfl ?_ ?_ ?_; rotate_left 4; (focus (repeat (first | (with_reducible exact Pick.here) | (with_reducible apply Pick.there)))); (focus exact aggT rfl); (focus rfl)) | (refine' rv_one H rfl ?_ ?_; rotate_left 3; (focus (repeat (first | (with_reducible exact Pick.here) | (with_reducible apply Pick.there)))); (focus exact oneT rfl))); simp [ApuD.smp, ApuD.told, *])
end Go.Proofs.Ytodjaobmhiglcaa.B
