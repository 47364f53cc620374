/- What the small functions of the program tell: numbers, times, the sound unit. -/
import Derived.Test.YtjgggmcnbdjdjaaGreatH
namespace Go.Proofs.YtjgggmcnbdjdjaaGreat.B
open Go.RowKit Go.Proofs.YtjgggmcnbdjdjaaGreat.K
attribute [local go_sem] max2_int min2_int max_two min_two i64_and255 i64_and65535 i64_and1
set_option maxRecDepth 20000
set_option linter.unusedVariables false
set_option linter.unusedSimpArgs false

/-! ## numbers -/
theorem impl_within (n lo hi : Int) (w : World) : Calls Tryz.prog 123 #[.int .i64 n, .int .i64 lo, .int .i64 hi] w fun e w' => e = .returned (.bool (inB n lo hi)) ∧ w = w' := by
  go_enter Tryz.func123, Tryz.ntmps123
  go_wp2
  all_goals (go_ret; first | exact ⟨ret_b (inB_le (by assumption)).symm, rfl⟩ | exact ⟨ret_b (inB_ge (by assumption)).symm, rfl⟩)
theorem spec_l1In (n lo hi : Int) (w : World) : Calls Tryz.prog 107 #[.int .i64 n, .int .i64 lo, .int .i64 hi] w fun e w' => e = .returned (.bool (inB n lo hi)) ∧ w = w' := by
  go_enter Tryz.func107, Tryz.ntmps107
  go_wp2
  all_goals (go_ret; first | exact ⟨ret_b (inB_le (by assumption)).symm, rfl⟩ | exact ⟨ret_b (inB_ge (by assumption)).symm, rfl⟩)
theorem impl_isTime (n : Int) (w : World) : Calls Tryz.prog 156 #[.int .i64 n] w fun e w' => e = .returned (.bool (inB n 0 20000)) ∧ w = w' := by
  go_enter Tryz.func156, Tryz.ntmps156
  go_wp2_with (go_at_call 123; (with_reducible refine (impl_within _ _ _ _).mono ?_); rintro e w1 ⟨rfl, rfl⟩)
  go_ret; exact ⟨rfl, rfl⟩
theorem impl_isByte (n : Int) (w : World) : Calls Tryz.prog 122 #[.int .i64 n] w fun e w' => e = .returned (.bool (inB n 0 255)) ∧ w = w' := by
  go_enter Tryz.func122, Tryz.ntmps122
  go_wp2_with (go_at_call 123; (with_reducible refine (impl_within _ _ _ _).mono ?_); rintro e w1 ⟨rfl, rfl⟩)
  go_ret; exact ⟨rfl, rfl⟩
theorem spec_l5Byte (n : Int) (w : World) : Calls Tryz.prog 106 #[.int .i64 n] w fun e w' => e = .returned (.bool (inB n 0 255)) ∧ w = w' := by
  go_enter Tryz.func106, Tryz.ntmps106
  go_wp2_with (go_at_call 107; (with_reducible refine (spec_l1In _ _ _ _).mono ?_); rintro e w1 ⟨rfl, rfl⟩)
  go_ret; exact ⟨rfl, rfl⟩
theorem impl_flag (b : Bool) (w : World) : Calls Tryz.prog 188 #[.bool b] w fun e w' => e = .returned (.int .i64 (if b = true then 1 else 0)) ∧ w = w' := by
  go_enter Tryz.func188, Tryz.ntmps188
  go_wp2
  all_goals (go_ret; exact ⟨ret_i (by simp [*]), rfl⟩)
theorem spec_l1Bit (b : Bool) (w : World) : Calls Tryz.prog 181 #[.bool b] w fun e w' => e = .returned (.int .i64 (if b = true then 1 else 0)) ∧ w = w' := by
  go_enter Tryz.func181, Tryz.ntmps181
  go_wp2
  all_goals (go_ret; exact ⟨ret_i (by simp [*]), rfl⟩)
theorem impl_Byte (n : Int) (w : World) : Calls Tryz.prog 192 #[.int .i64 n] w fun e w' => e = .returned (.int .i64 (n % 256)) ∧ w = w' := by
  go_enter Tryz.func192, Tryz.ntmps192
  go_wp2
  go_ret
  exact ⟨rfl, rfl⟩
theorem spec_Byte (n : Int) (w : World) : Calls Tryz.prog 191 #[.int .i64 n] w fun e w' => e = .returned (.int .i64 (n % 256)) ∧ w = w' := by
  go_enter Tryz.func191, Tryz.ntmps191
  go_wp2
  go_ret
  exact ⟨rfl, rfl⟩
/-- The greater, the smaller of two. -/
def gr (a b : Int) : Int := if b < a then a else b
def le (a b : Int) : Int := if a < b then a else b
theorem spec_l1Max (a b : Int) (w : World) : Calls Tryz.prog 234 #[.int .i64 a, .int .i64 b] w fun e w' => e = .returned (.int .i64 (gr a b)) ∧ w = w' := by
  go_enter Tryz.func234, Tryz.ntmps234
  go_wp2
  all_goals (go_ret; exact ⟨ret_i (by unfold gr; split <;> omega), rfl⟩)
theorem spec_l1Min (a b : Int) (w : World) : Calls Tryz.prog 235 #[.int .i64 a, .int .i64 b] w fun e w' => e = .returned (.int .i64 (le a b)) ∧ w = w' := by
  go_enter Tryz.func235, Tryz.ntmps235
  go_wp2
  all_goals (go_ret; exact ⟨ret_i (by unfold le; split <;> omega), rfl⟩)

/-! ## times -/
/-- The frame of a time. -/
def frm (t : Int) : Int := (if t < 0 then 0 else t) / 64
theorem frm_0 (t : Int) : 0 ≤ frm t := by unfold frm; split <;> omega
theorem frm_gr (t : Int) : gr t 0 / 64 = frm t := by unfold gr frm; congr 1; split <;> split <;> omega
/-- t as a time: 0 at least, 20000 at most. -/
def tim (a : Int) : Int := if a < 0 then 0 else if 20000 < a then 20000 else a
theorem tim_bd (a : Int) : 0 ≤ tim a ∧ tim a ≤ 20000 := by unfold tim; repeat' split <;> omega
theorem impl_FrameOf (t : Int) (w : World) (ht : t ≤ 9223372036854775807) : Calls Tryz.prog 217 #[.int .i64 t] w fun e w' => e = .returned (.int .i64 (frm t)) ∧ w = w' := by
  obtain ⟨m, hm⟩ : ∃ m, (if t < 0 then 0 else t) = m := ⟨_, rfl⟩
  have h1 : 0 ≤ m := by rw [← hm]; split <;> omega
  have h2 : m ≤ 9223372036854775807 := by rw [← hm]; split <;> omega
  have hf : frm t = m / 64 := by rw [frm, hm]
  rw [hf]
  clear hf
  go_enter Tryz.func217, Tryz.ntmps217
  go_wp2
  go_ret
  exact ⟨rfl, rfl⟩
theorem spec_FrameOf (t : Int) (w : World) (ht : t ≤ 9223372036854775807) : Calls Tryz.prog 216 #[.int .i64 t] w fun e w' => e = .returned (.int .i64 (frm t)) ∧ w = w' := by
  have h1 : 0 ≤ gr t 0 := by unfold gr; split <;> omega
  have h2 : gr t 0 ≤ 9223372036854775807 := by unfold gr; split <;> omega
  rw [← frm_gr]
  go_enter Tryz.func216, Tryz.ntmps216
  go_wp2_with (go_at_call 234; (with_reducible refine (spec_l1Max _ _ _).mono ?_); rintro e w1 ⟨rfl, rfl⟩)
  go_ret
  exact ⟨rfl, rfl⟩
theorem impl_timeOf (t : Int) (w : World) : Calls Tryz.prog 250 #[.int .i64 t] w fun e w' => e = .returned (.int .i64 (tim t)) ∧ w = w' := by
  go_enter Tryz.func250, Tryz.ntmps250
  go_wp2
  all_goals (go_ret; exact ⟨ret_i (by unfold tim; repeat' split <;> omega), rfl⟩)
theorem impl_cyclesAhead (t r p : Int) (w : World) (h0 : 0 ≤ t) (h1 : t ≤ 20000) (h2 : 0 ≤ r) (h3 : r < p) (h4 : p ≤ 64) :
    Calls Tryz.prog 186 #[.int .i64 t, .int .i64 r, .int .i64 p] w fun e w' => e = .returned (.int .i64 ((t + p - 1 - r) / p)) ∧ w = w' := by
  have h5 : 0 ≤ t + p := by omega
  have h6 : 0 ≤ t + p - 1 := by omega
  have h7 : 0 ≤ t + p - 1 - r := by omega
  have h8 : (p == 0) = false := by simp; omega
  have h9 : 0 < p := by omega
  have h10 : ¬ p = 0 := by omega
  go_enter Tryz.func186, Tryz.ntmps186
  go_wp2
  go_ret
  exact ⟨rfl, rfl⟩
/-- Is there a cycle from a on, ahead of b, that is r by p? (a, b: times) -/
def cyc (a b r p : Int) : Bool := decide ((tim a + p - 1 - r) / p < (tim b + p - 1 - r) / p)
theorem impl_isIn (a b r p : Int) (w : World) (h2 : 0 ≤ r) (h3 : r < p) (h4 : p ≤ 64) :
    Calls Tryz.prog 237 #[.int .i64 a, .int .i64 b, .int .i64 r, .int .i64 p] w fun e w' => e = .returned (.bool (cyc a b r p)) ∧ w = w' := by
  have ha := tim_bd a
  have hb := tim_bd b
  go_enter Tryz.func237, Tryz.ntmps237
  go_wp2_with (first | (go_at_call 250; (with_reducible refine (impl_timeOf _ _).mono ?_); rintro e w1 ⟨rfl, rfl⟩) | (go_at_call 186; (with_reducible refine (impl_cyclesAhead _ _ _ _ (by omega) (by omega) h2 h3 h4).mono ?_); rintro e w1 ⟨rfl, rfl⟩))
  go_ret
  exact ⟨rfl, rfl⟩
theorem impl_BeatIn (a b : Int) (w : World) : Calls Tryz.prog 214 #[.int .i64 a, .int .i64 b] w fun e w' => e = .returned (.bool (cyc a b 0 32)) ∧ w = w' := by
  go_enter Tryz.func214, Tryz.ntmps214
  go_wp2_with (go_at_call 237; (with_reducible refine (impl_isIn _ _ _ _ _ (by decide) (by decide) (by decide)).mono ?_); rintro e w1 ⟨rfl, rfl⟩)
  go_ret
  exact ⟨rfl, rfl⟩
theorem cyc_no (a b r p : Int) (hp : 0 < p) (h : le b 20000 ≤ gr a 0) : cyc a b r p = false := by
  have hs : tim b ≤ tim a := by unfold le gr at h; unfold tim; repeat' split <;> omega
  have := Int.ediv_le_ediv (c := p) hp (show tim b + p - 1 - r ≤ tim a + p - 1 - r by omega)
  simp only [cyc, decide_eq_false_iff_not]; omega
theorem spec_l9In_blank (a b : Int) (w : World) : Calls Tryz.prog 210 #[.int .i64 a, .int .i64 b, .int .i64 48, .int .i64 64] w fun e w' => e = .returned (.bool (cyc a b 48 64)) ∧ w = w' := by
  have h0 : 0 ≤ gr a 0 := by unfold gr; split <;> omega
  have h1 : le b 20000 ≤ 20000 := by unfold le; split <;> omega
  by_cases hc : le b 20000 ≤ gr a 0
  · rw [cyc_no a b 48 64 (by decide) hc]
    go_enter Tryz.func210, Tryz.ntmps210
    go_wp2_with (first | (go_at_call 234; (with_reducible refine (spec_l1Max _ _ _).mono ?_); rintro e w1 ⟨rfl, rfl⟩) | (go_at_call 235; (with_reducible refine (spec_l1Min _ _ _).mono ?_); rintro e w1 ⟨rfl, rfl⟩))
    go_ret
    exact ⟨rfl, rfl⟩
  · have h2 : gr a 0 < le b 20000 := by omega
    have h3 : 0 ≤ 48 - gr a 0 % 64 + 64 := by omega
    have hx : cyc a b 48 64 = decide (gr a 0 + (48 - gr a 0 % 64 + 64) % 64 < le b 20000) := by
      have e1 : tim a = gr a 0 := by unfold le gr at h2; unfold tim gr; repeat' split <;> omega
      have e2 : tim b = le b 20000 := by unfold le gr at h2; unfold tim le; repeat' split <;> omega
      simp only [cyc, e1, e2, decide_eq_decide]
      omega
    rw [hx]
    clear hc hx
    go_enter Tryz.func210, Tryz.ntmps210
    go_wp2_with (first | (go_at_call 234; (with_reducible refine (spec_l1Max _ _ _).mono ?_); rintro e w1 ⟨rfl, rfl⟩) | (go_at_call 235; (with_reducible refine (spec_l1Min _ _ _).mono ?_); rintro e w1 ⟨rfl, rfl⟩))
    go_ret
    exact ⟨ret_b (by simp only [decide_eq_decide]; omega), rfl⟩
theorem spec_l9In_beat (a b : Int) (w : World) : Calls Tryz.prog 210 #[.int .i64 a, .int .i64 b, .int .i64 0, .int .i64 32] w fun e w' => e = .returned (.bool (cyc a b 0 32)) ∧ w = w' := by
  have h0 : 0 ≤ gr a 0 := by unfold gr; split <;> omega
  have h1 : le b 20000 ≤ 20000 := by unfold le; split <;> omega
  by_cases hc : le b 20000 ≤ gr a 0
  · rw [cyc_no a b 0 32 (by decide) hc]
    go_enter Tryz.func210, Tryz.ntmps210
    go_wp2_with (first | (go_at_call 234; (with_reducible refine (spec_l1Max _ _ _).mono ?_); rintro e w1 ⟨rfl, rfl⟩) | (go_at_call 235; (with_reducible refine (spec_l1Min _ _ _).mono ?_); rintro e w1 ⟨rfl, rfl⟩))
    go_ret
    exact ⟨rfl, rfl⟩
  · have h2 : gr a 0 < le b 20000 := by omega
    have h3 : 0 ≤ 0 - gr a 0 % 32 + 32 := by omega
    have hx : cyc a b 0 32 = decide (gr a 0 + (0 - gr a 0 % 32 + 32) % 32 < le b 20000) := by
      have e1 : tim a = gr a 0 := by unfold le gr at h2; unfold tim gr; repeat' split <;> omega
      have e2 : tim b = le b 20000 := by unfold le gr at h2; unfold tim le; repeat' split <;> omega
      simp only [cyc, e1, e2, decide_eq_decide]
      omega
    rw [hx]
    clear hc hx
    go_enter Tryz.func210, Tryz.ntmps210
    go_wp2_with (first | (go_at_call 234; (with_reducible refine (spec_l1Max _ _ _).mono ?_); rintro e w1 ⟨rfl, rfl⟩) | (go_at_call 235; (with_reducible refine (spec_l1Min _ _ _).mono ?_); rintro e w1 ⟨rfl, rfl⟩))
    go_ret
    exact ⟨ret_b (by simp only [decide_eq_decide]; omega), rfl⟩
theorem spec_BeatIn (a b : Int) (w : World) : Calls Tryz.prog 163 #[.int .i64 a, .int .i64 b] w fun e w' => e = .returned (.bool (cyc a b 0 32)) ∧ w = w' := by
  go_enter Tryz.func163, Tryz.ntmps163
  go_wp2_with (go_at_call 210; (with_reducible refine (spec_l9In_beat _ _ _).mono ?_); rintro e w1 ⟨rfl, rfl⟩)
  go_ret
  exact ⟨rfl, rfl⟩
structure ApuD where (t p c b l : Int) (k i : Bool)
def ApuD.ok (a : ApuD) : Bool := inB a.t 0 20000 && inB a.p 0 255 && inB a.c 0 255 && inB a.b 0 1 && inB a.l 0 31
theorem ApuD.ok_iff (a : ApuD) : a.ok = true ↔ 0 ≤ a.t ∧ a.t ≤ 20000 ∧ 0 ≤ a.p ∧ a.p ≤ 255 ∧ 0 ≤ a.c ∧ a.c ≤ 255 ∧ 0 ≤ a.b ∧ a.b ≤ 1 ∧ 0 ≤ a.l ∧ a.l ≤ 31 := by
  simp only [ApuD.ok, Bool.and_eq_true, inB_iff, and_assoc]
def ApuD.zero : ApuD := ⟨0, 0, 0, 0, 0, false, false⟩
def ApuD.write (a : ApuD) (r v : Int) : ApuD :=
  if a.ok = true then
    if r = 0 then { a with p := v % 256 }
    else if r = 1 then { a with l := v % 32 }
    else if r = 2 then { a with k := (v % 2 == 1), i := a.i && (v % 2 == 1) }
    else if r = 3 then { a with i := false }
    else a
  else a
def ApuD.read (a : ApuD) (r : Int) : ApuD := if r = 2 ∧ a.ok = true then { a with i := false } else a
def ApuD.says (a : ApuD) (r : Int) : Int := if r = 2 ∧ a.ok = true then 128 * (if a.i = true then 1 else 0) + (if 0 < a.l then 1 else 0) else 0
/-- A cycle. -/
def ApuD.beat (a : ApuD) : Bool := decide (a.t % 32 = 0 ∧ 0 < a.l)
def ApuD.loud (a : ApuD) : Bool := decide (0 < a.l)
def ApuD.out (a : ApuD) : Bool := decide (a.l - 1 = 0)
def ApuD.tk (a : ApuD) : ApuD :=
  { t := a.t + 1, p := a.p, c := if a.c = 0 then a.p else a.c - 1, b := if a.c = 0 then (if a.loud = true then 1 - a.b else a.b) else a.b
    l := if a.beat = true then a.l - 1 else a.l, k := a.k
    i := if a.beat = true then (if a.i = true then true else if a.out = true then a.k else false) else a.i }
theorem ApuD.loud_t {a : ApuD} (h : a.loud = true) : 0 < a.l := by simpa [ApuD.loud] using h
theorem ApuD.loud_f {a : ApuD} (h : a.loud = false) : ¬ 0 < a.l := by simpa [ApuD.loud] using h
theorem ApuD.out_t {a : ApuD} (h : a.out = true) : a.l - 1 = 0 := by simpa [ApuD.out] using h
theorem ApuD.out_f {a : ApuD} (h : a.out = false) : ¬ a.l - 1 = 0 := by simpa [ApuD.out] using h
theorem ApuD.beat_t {a : ApuD} (h : a.beat = true) : a.t % 32 = 0 ∧ 0 < a.l := by simpa [ApuD.beat] using h
def ApuD.told (a : ApuD) : Bool := a.t % 16 == 15
def ApuD.smp (a : ApuD) : Int := if a.t % 16 = 15 ∧ 0 < a.tk.l then 8 * a.tk.b else 0
def ApuD.tick (a : ApuD) : ApuD := if a.ok = true then (if a.t = 20000 then a else a.tk) else ApuD.zero
def ApuD.tickN (a : ApuD) : Int := if a.ok = true then (if a.t = 20000 then 0 else a.smp) else 0
def ApuD.tickB (a : ApuD) : Bool := if a.ok = true then (if a.t = 20000 then false else a.told) else false
theorem laws_toApu (a : ApuD) (w : World) : Calls Tryz.prog 45 #[.agg #[.int .i64 a.t, .int .i64 a.p, .int .i64 a.c, .int .i64 a.b, .int .i64 a.l, .bool a.k, .bool a.i]] w fun e w' => e = .returned (.agg #[.int .i64 a.t, .int .i64 a.p, .int .i64 a.c, .int .i64 a.b, .int .i64 a.l, .bool a.k, .bool a.i]) ∧ Below w.heap.size w w' := by
  have H := St.nil w []
  go_enter Tryz.func45, Tryz.ntmps45
  go_wp2_with (first | ((with_reducible refine g_box rfl ?_); (first | refine ev_box (v := .int _ _) H rfl rfl rfl rfl ?_ | refine ev_box (v := .bool _) H rfl rfl rfl rfl ?_ | refine ev_box (v := .slice _ _ _) H rfl rfl rfl rfl ?_ | refine ev_box (v := .agg _) H rfl rfl rfl rfl ?_); intro g_ W_ H_; (clear H; have H := H_; clear H_)) | ((with_reducible refine g_alloc rfl ?_); refine ev_new H rfl rfl ?_; intro g_ W_ H_; (clear H; have H := H_; clear H_)) | ((with_reducible refine g_load rfl ?_); first | refine ev_ld1 H rfl rfl rfl ?_ | refine ev_lda H rfl rfl rfl ?_) | ((with_reducible refine g_store rfl ?_); (first | refine ev_sto (v := .int _ _) H rfl rfl rfl rfl rfl ?_ | refine ev_sto (v := .bool _) H rfl rfl rfl rfl rfl ?_ | refine ev_sto (v := .slice _ _ _) H rfl rfl rfl rfl rfl ?_ | refine ev_sto (v := .agg _) H rfl rfl rfl rfl rfl ?_); intro W_ H_; (clear H; have H := H_; clear H_)))
  refine' back1 Tryz.results45 ?_ rfl ⟨?_, H.below⟩; rotate_left 1; (focus first | (with_reducible exact rv_tmp rfl) | (refine' rv_agg H rfl ?_ ?_ ?_; rotate_left 4; (focus (repeat (first | (with_reducible exact Pick.here) | (with_reducible apply Pick.there)))); (focus exact aggT rfl); (focus rfl)) | (refine' rv_one H rfl ?_ ?_; rotate_left 3; (focus (repeat (first | (with_reducible exact Pick.here) | (with_reducible apply Pick.there)))); (focus exact oneT rfl)))
  rfl
theorem laws_eqApu (a : ApuD) (w : World) : Calls Tryz.prog 54 #[.agg #[.int .i64 a.t, .int .i64 a.p, .int .i64 a.c, .int .i64 a.b, .int .i64 a.l, .bool a.k, .bool a.i], .agg #[.int .i64 a.t, .int .i64 a.p, .int .i64 a.c, .int .i64 a.b, .int .i64 a.l, .bool a.k, .bool a.i]] w fun e w' => e = .returned (.bool true) ∧ Below w.heap.size w w' := by
  have H := St.nil w []
  go_enter Tryz.func54, Tryz.ntmps54
  go_wp2_with (first | ((with_reducible refine g_box rfl ?_); (first | refine ev_box (v := .int _ _) H rfl rfl rfl rfl ?_ | refine ev_box (v := .bool _) H rfl rfl rfl rfl ?_ | refine ev_box (v := .slice _ _ _) H rfl rfl rfl rfl ?_ | refine ev_box (v := .agg _) H rfl rfl rfl rfl ?_); intro g_ W_ H_; (clear H; have H := H_; clear H_)) | ((with_reducible refine g_alloc rfl ?_); refine ev_new H rfl rfl ?_; intro g_ W_ H_; (clear H; have H := H_; clear H_)) | ((with_reducible refine g_load rfl ?_); first | refine ev_ld1 H rfl rfl rfl ?_ | refine ev_lda H rfl rfl rfl ?_) | ((with_reducible refine g_store rfl ?_); (first | refine ev_sto (v := .int _ _) H rfl rfl rfl rfl rfl ?_ | refine ev_sto (v := .bool _) H rfl rfl rfl rfl rfl ?_ | refine ev_sto (v := .slice _ _ _) H rfl rfl rfl rfl rfl ?_ | refine ev_sto (v := .agg _) H rfl rfl rfl rfl rfl ?_); intro W_ H_; (clear H; have H := H_; clear H_)))
  all_goals (go_ret; exact ⟨rfl, H.below⟩)
theorem impl_ApuOk (a : ApuD) (w : World) : Calls Tryz.prog 121 #[.agg #[.int .i64 a.t, .int .i64 a.p, .int .i64 a.c, .int .i64 a.b, .int .i64 a.l, .bool a.k, .bool a.i]] w fun e w' => e = .returned (.bool a.ok) ∧ Below w.heap.size w w' := by
  go_enter Tryz.func121, Tryz.ntmps121
  go_wp2_with (first | (go_at_call 156; (with_reducible refine (impl_isTime _ _).mono ?_); rintro e w1 ⟨rfl, rfl⟩) | (go_at_call 122; (with_reducible refine (impl_isByte _ _).mono ?_); rintro e w1 ⟨rfl, rfl⟩) | (go_at_call 123; (with_reducible refine (impl_within _ _ _ _).mono ?_); rintro e w1 ⟨rfl, rfl⟩))
  all_goals (go_ret; exact ⟨ret_b (by simp [ApuD.ok, *]), by repeat (first | exact Below.refl _ _ | apply bA | apply bD | apply bd)⟩)
theorem spec_ApuOk (a : ApuD) (w : World) : Calls Tryz.prog 105 #[.agg #[.int .i64 a.t, .int .i64 a.p, .int .i64 a.c, .int .i64 a.b, .int .i64 a.l, .bool a.k, .bool a.i]] w fun e w' => e = .returned (.bool a.ok) ∧ Below w.heap.size w w' := by
  go_enter Tryz.func105, Tryz.ntmps105
  go_wp2_with (first | (go_at_call 106; (with_reducible refine (spec_l5Byte _ _).mono ?_); rintro e w1 ⟨rfl, rfl⟩) | (go_at_call 107; (with_reducible refine (spec_l1In _ _ _ _).mono ?_); rintro e w1 ⟨rfl, rfl⟩))
  all_goals (go_ret; exact ⟨ret_b (by simp [ApuD.ok, *]), by repeat (first | exact Below.refl _ _ | apply bA | apply bD | apply bd)⟩)
set_option maxHeartbeats 1000000 in
theorem impl_ApuWrite (a : ApuD) (r v : Int) (w : World) : Calls Tryz.prog 137 #[.agg #[.int .i64 a.t, .int .i64 a.p, .int .i64 a.c, .int .i64 a.b, .int .i64 a.l, .bool a.k, .bool a.i], .int .i64 r, .int .i64 v] w fun e w' => e = .returned (.agg #[.int .i64 (a.write r v).t, .int .i64 (a.write r v).p, .int .i64 (a.write r v).c, .int .i64 (a.write r v).b, .int .i64 (a.write r v).l, .bool (a.write r v).k, .bool (a.write r v).i]) ∧ Below w.heap.size w w' := by
  have H := St.nil w []
  go_enter Tryz.func137, Tryz.ntmps137
  go_wp2_with (first | ((with_reducible refine g_box rfl ?_); (first | refine ev_box (v := .int _ _) H rfl rfl rfl rfl ?_ | refine ev_box (v := .bool _) H rfl rfl rfl rfl ?_ | refine ev_box (v := .slice _ _ _) H rfl rfl rfl rfl ?_ | refine ev_box (v := .agg _) H rfl rfl rfl rfl ?_); intro g_ W_ H_; (clear H; have H := H_; clear H_)) | ((with_reducible refine g_alloc rfl ?_); refine ev_new H rfl rfl ?_; intro g_ W_ H_; (clear H; have H := H_; clear H_)) | ((with_reducible refine g_load rfl ?_); first | refine ev_ld1 H rfl rfl rfl ?_ | refine ev_lda H rfl rfl rfl ?_) | ((with_reducible refine g_store rfl ?_); (first | refine ev_sto (v := .int _ _) H rfl rfl rfl rfl rfl ?_ | refine ev_sto (v := .bool _) H rfl rfl rfl rfl rfl ?_ | refine ev_sto (v := .slice _ _ _) H rfl rfl rfl rfl rfl ?_ | refine ev_sto (v := .agg _) H rfl rfl rfl rfl rfl ?_); intro W_ H_; (clear H; have H := H_; clear H_)) | (go_at_call 121; (with_reducible refine (impl_ApuOk a _).mono ?_); rintro e w1 ⟨rfl, hb⟩; (have H_ := H.callB hb; (clear H; have H := H_; clear H_); clear hb)) | (go_at_call 192; (with_reducible refine (impl_Byte _ _).mono ?_); rintro e w1 ⟨rfl, rfl⟩))
  all_goals (refine' back1 Tryz.results137 ?_ rfl ⟨?_, H.below⟩; rotate_left 1; (focus first | (with_reducible exact rv_tmp rfl) | (refine' rv_agg H rfl ?_ ?_ ?_; rotate_left 4; (focus (repeat (first | (with_reducible exact Pick.here) | (with_reducible apply Pick.there)))); (focus exact aggT rfl); (focus rfl)) | (refine' rv_one H rfl ?_ ?_; rotate_left 3; (focus (repeat (first | (with_reducible exact Pick.here) | (with_reducible apply Pick.there)))); (focus exact oneT rfl))); clear H; simp_all [ApuD.write])
set_option maxHeartbeats 1000000 in
theorem spec_ApuWrite (a : ApuD) (r v : Int) (w : World) : Calls Tryz.prog 133 #[.agg #[.int .i64 a.t, .int .i64 a.p, .int .i64 a.c, .int .i64 a.b, .int .i64 a.l, .bool a.k, .bool a.i], .int .i64 r, .int .i64 v] w fun e w' => e = .returned (.agg #[.int .i64 (a.write r v).t, .int .i64 (a.write r v).p, .int .i64 (a.write r v).c, .int .i64 (a.write r v).b, .int .i64 (a.write r v).l, .bool (a.write r v).k, .bool (a.write r v).i]) ∧ Below w.heap.size w w' := by
  have H := St.nil w []
  go_enter Tryz.func133, Tryz.ntmps133
  go_wp2_with (first | ((with_reducible refine g_box rfl ?_); (first | refine ev_box (v := .int _ _) H rfl rfl rfl rfl ?_ | refine ev_box (v := .bool _) H rfl rfl rfl rfl ?_ | refine ev_box (v := .slice _ _ _) H rfl rfl rfl rfl ?_ | refine ev_box (v := .agg _) H rfl rfl rfl rfl ?_); intro g_ W_ H_; (clear H; have H := H_; clear H_)) | ((with_reducible refine g_alloc rfl ?_); refine ev_new H rfl rfl ?_; intro g_ W_ H_; (clear H; have H := H_; clear H_)) | ((with_reducible refine g_load rfl ?_); first | refine ev_ld1 H rfl rfl rfl ?_ | refine ev_lda H rfl rfl rfl ?_) | ((with_reducible refine g_store rfl ?_); (first | refine ev_sto (v := .int _ _) H rfl rfl rfl rfl rfl ?_ | refine ev_sto (v := .bool _) H rfl rfl rfl rfl rfl ?_ | refine ev_sto (v := .slice _ _ _) H rfl rfl rfl rfl rfl ?_ | refine ev_sto (v := .agg _) H rfl rfl rfl rfl rfl ?_); intro W_ H_; (clear H; have H := H_; clear H_)) | (go_at_call 105; (with_reducible refine (spec_ApuOk a _).mono ?_); rintro e w1 ⟨rfl, hb⟩; (have H_ := H.callB hb; (clear H; have H := H_; clear H_); clear hb)) | (go_at_call 191; (with_reducible refine (spec_Byte _ _).mono ?_); rintro e w1 ⟨rfl, rfl⟩))
  all_goals (refine' back1 Tryz.results133 ?_ rfl ⟨?_, H.below⟩; rotate_left 1; (focus first | (with_reducible exact rv_tmp rfl) | (refine' rv_agg H rfl ?_ ?_ ?_; rotate_left 4; (focus (repeat (first | (with_reducible exact Pick.here) | (with_reducible apply Pick.there)))); (focus exact aggT rfl); (focus rfl)) | (refine' rv_one H rfl ?_ ?_; rotate_left 3; (focus (repeat (first | (with_reducible exact Pick.here) | (with_reducible apply Pick.there)))); (focus exact oneT rfl))); clear H; simp_all [ApuD.write])
set_option maxHeartbeats 2000000 in
theorem impl_ApuRead (a : ApuD) (r : Int) (w : World) : Calls Tryz.prog 128 #[.agg #[.int .i64 a.t, .int .i64 a.p, .int .i64 a.c, .int .i64 a.b, .int .i64 a.l, .bool a.k, .bool a.i], .int .i64 r] w fun e w' => e = .returned (.tuple #[.agg #[.int .i64 (a.read r).t, .int .i64 (a.read r).p, .int .i64 (a.read r).c, .int .i64 (a.read r).b, .int .i64 (a.read r).l, .bool (a.read r).k, .bool (a.read r).i], .int .i64 (a.says r)]) ∧ Below w.heap.size w w' := by
  have H := St.nil w []
  have h2 : (r = 2 ∧ a.ok = true) ∨ ((r == 2) = false ∧ (r != 2) = true ∧ a.ok = true) ∨ ((r == 2) = false ∧ (r != 2) = true ∧ a.ok = false) ∨ (r = 2 ∧ a.ok = false) := by
    by_cases h : r = 2 <;> cases a.ok <;> simp [h]
  rcases h2 with ⟨rfl, hok⟩ | ⟨h1, h2, hok⟩ | ⟨h1, h2, hok⟩ | ⟨rfl, hok⟩
  all_goals
    go_enter Tryz.func128, Tryz.ntmps128
    go_wp2_with (first | ((with_reducible refine g_box rfl ?_); (first | refine ev_box (v := .int _ _) H rfl rfl rfl rfl ?_ | refine ev_box (v := .bool _) H rfl rfl rfl rfl ?_ | refine ev_box (v := .slice _ _ _) H rfl rfl rfl rfl ?_ | refine ev_box (v := .agg _) H rfl rfl rfl rfl ?_); intro g_ W_ H_; (clear H; have H := H_; clear H_)) | ((with_reducible refine g_alloc rfl ?_); refine ev_new H rfl rfl ?_; intro g_ W_ H_; (clear H; have H := H_; clear H_)) | ((with_reducible refine g_load rfl ?_); first | refine ev_ld1 H rfl rfl rfl ?_ | refine ev_lda H rfl rfl rfl ?_) | ((with_reducible refine g_store rfl ?_); (first | refine ev_sto (v := .int _ _) H rfl rfl rfl rfl rfl ?_ | refine ev_sto (v := .bool _) H rfl rfl rfl rfl rfl ?_ | refine ev_sto (v := .slice _ _ _) H rfl rfl rfl rfl rfl ?_ | refine ev_sto (v := .agg _) H rfl rfl rfl rfl rfl ?_); intro W_ H_; (clear H; have H := H_; clear H_)) | (go_at_call 121; (with_reducible refine (impl_ApuOk a _).mono ?_); rintro e w1 ⟨rfl, hb⟩; (have H_ := H.callB hb; (clear H; have H := H_; clear H_); clear hb)) | ((with_reducible refine g_draw ?_); (try (have q1 := cells_of H.n1; simp only [cellsAll, Nat.reduceAdd, Nat.zero_add, and_true] at q1)); (try (have q2 := cells_of H.n2; simp only [cellsAll, Nat.reduceAdd, Nat.zero_add, and_true] at q2)); (try (have q3 := cells_of H.n3; simp only [cellsAll, Nat.reduceAdd, Nat.zero_add, and_true] at q3)); (try (have q4 := cells_of H.n4; simp only [cellsAll, Nat.reduceAdd, Nat.zero_add, and_true] at q4)); go_quiet ((first | (go_at_call 188; exact Calls.quiet_of_same (q_of (impl_flag _ _))))); (try clear q1); (try clear q2); (try clear q3); (try clear q4); (have H_ := H.drewN nq; (clear H; have H := H_; clear H_))))
    all_goals (refine' back2 Tryz.results128 ?_ ?_ rfl ⟨?_, H.below⟩; rotate_left 2; (focus first | (with_reducible exact rv_tmp rfl) | (refine' rv_agg H rfl ?_ ?_ ?_; rotate_left 4; (focus (repeat (first | (with_reducible exact Pick.here) | (with_reducible apply Pick.there)))); (focus exact aggT rfl); (focus rfl)) | (refine' rv_one H rfl ?_ ?_; rotate_left 3; (focus (repeat (first | (with_reducible exact Pick.here) | (with_reducible apply Pick.there)))); (focus exact oneT rfl))); (focus first | (with_reducible exact rv_tmp rfl) | (refine' rv_agg H rfl ?_ ?_ ?_; rotate_left 4; (focus (repeat (first | (with_reducible exact Pick.here) | (with_reducible apply Pick.there)))); (focus exact aggT rfl); (focus rfl)) | (refine' rv_one H rfl ?_ ?_; rotate_left 3; (focus (repeat (first | (with_reducible exact Pick.here) | (with_reducible apply Pick.there)))); (focus exact oneT rfl))); clear H; simp_all [ApuD.read, ApuD.says])
    all_goals omega
set_option maxHeartbeats 2000000 in
theorem spec_ApuRead (a : ApuD) (r : Int) (w : World) : Calls Tryz.prog 111 #[.agg #[.int .i64 a.t, .int .i64 a.p, .int .i64 a.c, .int .i64 a.b, .int .i64 a.l, .bool a.k, .bool a.i], .int .i64 r] w fun e w' => e = .returned (.tuple #[.agg #[.int .i64 (a.read r).t, .int .i64 (a.read r).p, .int .i64 (a.read r).c, .int .i64 (a.read r).b, .int .i64 (a.read r).l, .bool (a.read r).k, .bool (a.read r).i], .int .i64 (a.says r)]) ∧ Below w.heap.size w w' := by
  have H := St.nil w []
  have h2 : (r = 2 ∧ a.ok = true) ∨ ((r == 2) = false ∧ (r != 2) = true ∧ a.ok = true) ∨ ((r == 2) = false ∧ (r != 2) = true ∧ a.ok = false) ∨ (r = 2 ∧ a.ok = false) := by
    by_cases h : r = 2 <;> cases a.ok <;> simp [h]
  rcases h2 with ⟨rfl, hok⟩ | ⟨h1, h2, hok⟩ | ⟨h1, h2, hok⟩ | ⟨rfl, hok⟩
  all_goals
    go_enter Tryz.func111, Tryz.ntmps111
    go_wp2_with (first | ((with_reducible refine g_box rfl ?_); (first | refine ev_box (v := .int _ _) H rfl rfl rfl rfl ?_ | refine ev_box (v := .bool _) H rfl rfl rfl rfl ?_ | refine ev_box (v := .slice _ _ _) H rfl rfl rfl rfl ?_ | refine ev_box (v := .agg _) H rfl rfl rfl rfl ?_); intro g_ W_ H_; (clear H; have H := H_; clear H_)) | ((with_reducible refine g_alloc rfl ?_); refine ev_new H rfl rfl ?_; intro g_ W_ H_; (clear H; have H := H_; clear H_)) | ((with_reducible refine g_load rfl ?_); first | refine ev_ld1 H rfl rfl rfl ?_ | refine ev_lda H rfl rfl rfl ?_) | ((with_reducible refine g_store rfl ?_); (first | refine ev_sto (v := .int _ _) H rfl rfl rfl rfl rfl ?_ | refine ev_sto (v := .bool _) H rfl rfl rfl rfl rfl ?_ | refine ev_sto (v := .slice _ _ _) H rfl rfl rfl rfl rfl ?_ | refine ev_sto (v := .agg _) H rfl rfl rfl rfl rfl ?_); intro W_ H_; (clear H; have H := H_; clear H_)) | (go_at_call 105; (with_reducible refine (spec_ApuOk a _).mono ?_); rintro e w1 ⟨rfl, hb⟩; (have H_ := H.callB hb; (clear H; have H := H_; clear H_); clear hb)) | ((with_reducible refine g_draw ?_); (try (have q1 := cells_of H.n1; simp only [cellsAll, Nat.reduceAdd, Nat.zero_add, and_true] at q1)); (try (have q2 := cells_of H.n2; simp only [cellsAll, Nat.reduceAdd, Nat.zero_add, and_true] at q2)); (try (have q3 := cells_of H.n3; simp only [cellsAll, Nat.reduceAdd, Nat.zero_add, and_true] at q3)); (try (have q4 := cells_of H.n4; simp only [cellsAll, Nat.reduceAdd, Nat.zero_add, and_true] at q4)); go_quiet ((first | (go_at_call 181; exact Calls.quiet_of_same (q_of (spec_l1Bit _ _))))); (try clear q1); (try clear q2); (try clear q3); (try clear q4); (have H_ := H.drewN nq; (clear H; have H := H_; clear H_))))
    all_goals (refine' back2 Tryz.results111 ?_ ?_ rfl ⟨?_, H.below⟩; rotate_left 2; (focus first | (with_reducible exact rv_tmp rfl) | (refine' rv_agg H rfl ?_ ?_ ?_; rotate_left 4; (focus (repeat (first | (with_reducible exact Pick.here) | (with_reducible apply Pick.there)))); (focus exact aggT rfl); (focus rfl)) | (refine' rv_one H rfl ?_ ?_; rotate_left 3; (focus (repeat (first | (with_reducible exact Pick.here) | (with_reducible apply Pick.there)))); (focus exact oneT rfl))); (focus first | (with_reducible exact rv_tmp rfl) | (refine' rv_agg H rfl ?_ ?_ ?_; rotate_left 4; (focus (repeat (first | (with_reducible exact Pick.here) | (with_reducible apply Pick.there)))); (focus exact aggT rfl); (focus rfl)) | (refine' rv_one H rfl ?_ ?_; rotate_left 3; (focus (repeat (first | (with_reducible exact Pick.here) | (with_reducible apply Pick.there)))); (focus exact oneT rfl))); clear H; simp_all [ApuD.read, ApuD.says])
    all_goals omega
set_option maxRecDepth 100000 in
set_option maxHeartbeats 4000000 in
theorem impl_Apu_tick (a : ApuD) (g : Nat) (w : World) (hok : a.ok = true) (H0 : Hol w [Ast.blk g [.int .i64 a.t, .int .i64 a.p, .int .i64 a.c, .int .i64 a.b, .int .i64 a.l, .bool a.k, .bool a.i] 45]) : Calls Tryz.prog 202 #[.pointer (some ⟨g, 0, none⟩)] w fun e w' => e = .returned (.tuple #[.int .i64 a.smp, .bool a.told]) ∧ St w [g] w' [Ast.blk g [.int .i64 a.tk.t, .int .i64 a.tk.p, .int .i64 a.tk.c, .int .i64 a.tk.b, .int .i64 a.tk.l, .bool a.tk.k, .bool a.tk.i] 45] := by
  have H := H0.st
  clear H0
  obtain ⟨b1, b2, b3, b4, b5, b6, b7, b8, b9, b10⟩ := a.ok_iff.1 hok
  clear hok
  go_enter Tryz.func202, Tryz.ntmps202
  go_upto_if 9 with (first | ((with_reducible refine g_box rfl ?_); (first | refine ev_box (v := .int _ _) H rfl rfl rfl rfl ?_ | refine ev_box (v := .bool _) H rfl rfl rfl rfl ?_ | refine ev_box (v := .slice _ _ _) H rfl rfl rfl rfl ?_ | refine ev_box (v := .agg _) H rfl rfl rfl rfl ?_); intro g_ W_ H_; (clear H; have H := H_; clear H_)) | ((with_reducible refine g_alloc rfl ?_); refine ev_new H rfl rfl ?_; intro g_ W_ H_; (clear H; have H := H_; clear H_)) | ((with_reducible refine g_load rfl ?_); first | refine ev_ld1 H rfl rfl rfl ?_ | refine ev_lda H rfl rfl rfl ?_) | ((with_reducible refine g_store rfl ?_); (first | refine ev_sto (v := .int _ _) H rfl rfl rfl rfl rfl ?_ | refine ev_sto (v := .bool _) H rfl rfl rfl rfl rfl ?_ | refine ev_sto (v := .slice _ _ _) H rfl rfl rfl rfl rfl ?_ | refine ev_sto (v := .agg _) H rfl rfl rfl rfl rfl ?_); intro W_ H_; (clear H; have H := H_; clear H_)))
  go_cut [] (fun wc => St w [g] wc [Ast.blk g [.int .i64 a.t, .int .i64 a.p, .int .i64 a.tk.c, .int .i64 a.tk.b, .int .i64 a.l, .bool a.k, .bool a.i] 45])
  case first =>
    by_cases h1 : a.c = 0
    · cases h2 : a.loud
      · have h3 : decide (0 < a.l) = false := decide_eq_false (ApuD.loud_f h2)
        go_wp2_with (first | ((with_reducible refine g_box rfl ?_); (first | refine ev_box (v := .int _ _) H rfl rfl rfl rfl ?_ | refine ev_box (v := .bool _) H rfl rfl rfl rfl ?_ | refine ev_box (v := .slice _ _ _) H rfl rfl rfl rfl ?_ | refine ev_box (v := .agg _) H rfl rfl rfl rfl ?_); intro g_ W_ H_; (clear H; have H := H_; clear H_)) | ((with_reducible refine g_alloc rfl ?_); refine ev_new H rfl rfl ?_; intro g_ W_ H_; (clear H; have H := H_; clear H_)) | ((with_reducible refine g_load rfl ?_); first | refine ev_ld1 H rfl rfl rfl ?_ | refine ev_lda H rfl rfl rfl ?_) | ((with_reducible refine g_store rfl ?_); (first | refine ev_sto (v := .int _ _) H rfl rfl rfl rfl rfl ?_ | refine ev_sto (v := .bool _) H rfl rfl rfl rfl rfl ?_ | refine ev_sto (v := .slice _ _ _) H rfl rfl rfl rfl rfl ?_ | refine ev_sto (v := .agg _) H rfl rfl rfl rfl rfl ?_); intro W_ H_; (clear H; have H := H_; clear H_)))
        all_goals (go_meet; case rel => exact H.cast (by simp [ApuD.tk, *]))
      · have h3 : decide (0 < a.l) = true := decide_eq_true (ApuD.loud_t h2)
        go_wp2_with (first | ((with_reducible refine g_box rfl ?_); (first | refine ev_box (v := .int _ _) H rfl rfl rfl rfl ?_ | refine ev_box (v := .bool _) H rfl rfl rfl rfl ?_ | refine ev_box (v := .slice _ _ _) H rfl rfl rfl rfl ?_ | refine ev_box (v := .agg _) H rfl rfl rfl rfl ?_); intro g_ W_ H_; (clear H; have H := H_; clear H_)) | ((with_reducible refine g_alloc rfl ?_); refine ev_new H rfl rfl ?_; intro g_ W_ H_; (clear H; have H := H_; clear H_)) | ((with_reducible refine g_load rfl ?_); first | refine ev_ld1 H rfl rfl rfl ?_ | refine ev_lda H rfl rfl rfl ?_) | ((with_reducible refine g_store rfl ?_); (first | refine ev_sto (v := .int _ _) H rfl rfl rfl rfl rfl ?_ | refine ev_sto (v := .bool _) H rfl rfl rfl rfl rfl ?_ | refine ev_sto (v := .slice _ _ _) H rfl rfl rfl rfl rfl ?_ | refine ev_sto (v := .agg _) H rfl rfl rfl rfl rfl ?_); intro W_ H_; (clear H; have H := H_; clear H_)))
        all_goals (go_meet; case rel => exact H.cast (by simp [ApuD.tk, *]))
    · go_wp2_with (first | ((with_reducible refine g_box rfl ?_); (first | refine ev_box (v := .int _ _) H rfl rfl rfl rfl ?_ | refine ev_box (v := .bool _) H rfl rfl rfl rfl ?_ | refine ev_box (v := .slice _ _ _) H rfl rfl rfl rfl ?_ | refine ev_box (v := .agg _) H rfl rfl rfl rfl ?_); intro g_ W_ H_; (clear H; have H := H_; clear H_)) | ((with_reducible refine g_alloc rfl ?_); refine ev_new H rfl rfl ?_; intro g_ W_ H_; (clear H; have H := H_; clear H_)) | ((with_reducible refine g_load rfl ?_); first | refine ev_ld1 H rfl rfl rfl ?_ | refine ev_lda H rfl rfl rfl ?_) | ((with_reducible refine g_store rfl ?_); (first | refine ev_sto (v := .int _ _) H rfl rfl rfl rfl rfl ?_ | refine ev_sto (v := .bool _) H rfl rfl rfl rfl rfl ?_ | refine ev_sto (v := .slice _ _ _) H rfl rfl rfl rfl rfl ?_ | refine ev_sto (v := .agg _) H rfl rfl rfl rfl rfl ?_); intro W_ H_; (clear H; have H := H_; clear H_)))
      all_goals (go_meet; case rel => exact H.cast (by simp [ApuD.tk, *]))
  case rest =>
    clear H
    have H := hcut
    clear hcut
    go_upto_region 6 with (fail)
    go_cut [49] (fun v wc => v = .bool a.beat ∧ St w [g] wc [Ast.blk g [.int .i64 a.t, .int .i64 a.p, .int .i64 a.tk.c, .int .i64 a.tk.b, .int .i64 a.l, .bool a.k, .bool a.i] 45])
    case first =>
      by_cases h3 : a.t % 32 = 0
      all_goals
        go_wp2_with (first | ((with_reducible refine g_box rfl ?_); (first | refine ev_box (v := .int _ _) H rfl rfl rfl rfl ?_ | refine ev_box (v := .bool _) H rfl rfl rfl rfl ?_ | refine ev_box (v := .slice _ _ _) H rfl rfl rfl rfl ?_ | refine ev_box (v := .agg _) H rfl rfl rfl rfl ?_); intro g_ W_ H_; (clear H; have H := H_; clear H_)) | ((with_reducible refine g_alloc rfl ?_); refine ev_new H rfl rfl ?_; intro g_ W_ H_; (clear H; have H := H_; clear H_)) | ((with_reducible refine g_load rfl ?_); first | refine ev_ld1 H rfl rfl rfl ?_ | refine ev_lda H rfl rfl rfl ?_) | ((with_reducible refine g_store rfl ?_); (first | refine ev_sto (v := .int _ _) H rfl rfl rfl rfl rfl ?_ | refine ev_sto (v := .bool _) H rfl rfl rfl rfl rfl ?_ | refine ev_sto (v := .slice _ _ _) H rfl rfl rfl rfl rfl ?_ | refine ev_sto (v := .agg _) H rfl rfl rfl rfl rfl ?_); intro W_ H_; (clear H; have H := H_; clear H_)))
        all_goals (go_meet; case rel => exact ⟨by simp [ApuD.beat, h3], H⟩)
    case rest =>
      clear H
      obtain ⟨rfl, H⟩ := hcut
      go_upto_if 49 with (fail)
      go_cut [] (fun wc => St w [g] wc [Ast.blk g [.int .i64 a.t, .int .i64 a.p, .int .i64 a.tk.c, .int .i64 a.tk.b, .int .i64 a.tk.l, .bool a.k, .bool a.tk.i] 45])
      case first =>
        cases hb : a.beat
        · go_wp2_with (first | ((with_reducible refine g_box rfl ?_); (first | refine ev_box (v := .int _ _) H rfl rfl rfl rfl ?_ | refine ev_box (v := .bool _) H rfl rfl rfl rfl ?_ | refine ev_box (v := .slice _ _ _) H rfl rfl rfl rfl ?_ | refine ev_box (v := .agg _) H rfl rfl rfl rfl ?_); intro g_ W_ H_; (clear H; have H := H_; clear H_)) | ((with_reducible refine g_alloc rfl ?_); refine ev_new H rfl rfl ?_; intro g_ W_ H_; (clear H; have H := H_; clear H_)) | ((with_reducible refine g_load rfl ?_); first | refine ev_ld1 H rfl rfl rfl ?_ | refine ev_lda H rfl rfl rfl ?_) | ((with_reducible refine g_store rfl ?_); (first | refine ev_sto (v := .int _ _) H rfl rfl rfl rfl rfl ?_ | refine ev_sto (v := .bool _) H rfl rfl rfl rfl rfl ?_ | refine ev_sto (v := .slice _ _ _) H rfl rfl rfl rfl rfl ?_ | refine ev_sto (v := .agg _) H rfl rfl rfl rfl rfl ?_); intro W_ H_; (clear H; have H := H_; clear H_)))
          all_goals (go_meet; case rel => exact H.cast (by simp [ApuD.tk, *]))
        · have h4 := (ApuD.beat_t hb).2
          cases hi : a.i
          · cases ho : a.out
            · have h5 : (a.l - 1 == 0) = false := by simpa using ApuD.out_f ho
              go_wp2_with (first | ((with_reducible refine g_box rfl ?_); (first | refine ev_box (v := .int _ _) H rfl rfl rfl rfl ?_ | refine ev_box (v := .bool _) H rfl rfl rfl rfl ?_ | refine ev_box (v := .slice _ _ _) H rfl rfl rfl rfl ?_ | refine ev_box (v := .agg _) H rfl rfl rfl rfl ?_); intro g_ W_ H_; (clear H; have H := H_; clear H_)) | ((with_reducible refine g_alloc rfl ?_); refine ev_new H rfl rfl ?_; intro g_ W_ H_; (clear H; have H := H_; clear H_)) | ((with_reducible refine g_load rfl ?_); first | refine ev_ld1 H rfl rfl rfl ?_ | refine ev_lda H rfl rfl rfl ?_) | ((with_reducible refine g_store rfl ?_); (first | refine ev_sto (v := .int _ _) H rfl rfl rfl rfl rfl ?_ | refine ev_sto (v := .bool _) H rfl rfl rfl rfl rfl ?_ | refine ev_sto (v := .slice _ _ _) H rfl rfl rfl rfl rfl ?_ | refine ev_sto (v := .agg _) H rfl rfl rfl rfl rfl ?_); intro W_ H_; (clear H; have H := H_; clear H_)))
              all_goals (go_meet; case rel => exact H.cast (by simp [ApuD.tk, *]))
            · have h5 : (a.l - 1 == 0) = true := by simpa using ApuD.out_t ho
              go_wp2_with (first | ((with_reducible refine g_box rfl ?_); (first | refine ev_box (v := .int _ _) H rfl rfl rfl rfl ?_ | refine ev_box (v := .bool _) H rfl rfl rfl rfl ?_ | refine ev_box (v := .slice _ _ _) H rfl rfl rfl rfl ?_ | refine ev_box (v := .agg _) H rfl rfl rfl rfl ?_); intro g_ W_ H_; (clear H; have H := H_; clear H_)) | ((with_reducible refine g_alloc rfl ?_); refine ev_new H rfl rfl ?_; intro g_ W_ H_; (clear H; have H := H_; clear H_)) | ((with_reducible refine g_load rfl ?_); first | refine ev_ld1 H rfl rfl rfl ?_ | refine ev_lda H rfl rfl rfl ?_) | ((with_reducible refine g_store rfl ?_); (first | refine ev_sto (v := .int _ _) H rfl rfl rfl rfl rfl ?_ | refine ev_sto (v := .bool _) H rfl rfl rfl rfl rfl ?_ | refine ev_sto (v := .slice _ _ _) H rfl rfl rfl rfl rfl ?_ | refine ev_sto (v := .agg _) H rfl rfl rfl rfl rfl ?_); intro W_ H_; (clear H; have H := H_; clear H_)))
              all_goals (go_meet; case rel => exact H.cast (by simp [ApuD.tk, *]))
          · go_wp2_with (first | ((with_reducible refine g_box rfl ?_); (first | refine ev_box (v := .int _ _) H rfl rfl rfl rfl ?_ | refine ev_box (v := .bool _) H rfl rfl rfl rfl ?_ | refine ev_box (v := .slice _ _ _) H rfl rfl rfl rfl ?_ | refine ev_box (v := .agg _) H rfl rfl rfl rfl ?_); intro g_ W_ H_; (clear H; have H := H_; clear H_)) | ((with_reducible refine g_alloc rfl ?_); refine ev_new H rfl rfl ?_; intro g_ W_ H_; (clear H; have H := H_; clear H_)) | ((with_reducible refine g_load rfl ?_); first | refine ev_ld1 H rfl rfl rfl ?_ | refine ev_lda H rfl rfl rfl ?_) | ((with_reducible refine g_store rfl ?_); (first | refine ev_sto (v := .int _ _) H rfl rfl rfl rfl rfl ?_ | refine ev_sto (v := .bool _) H rfl rfl rfl rfl rfl ?_ | refine ev_sto (v := .slice _ _ _) H rfl rfl rfl rfl rfl ?_ | refine ev_sto (v := .agg _) H rfl rfl rfl rfl rfl ?_); intro W_ H_; (clear H; have H := H_; clear H_)))
            all_goals (go_meet; case rel => exact H.cast (by simp [ApuD.tk, *]))
      case rest =>
        clear H
        have H := hcut
        clear hcut
        have h6 : (a.t % 16 = 15 ∧ (a.t % 16 == 15) = true) ∨ (¬ a.t % 16 = 15 ∧ (a.t % 16 == 15) = false) := by by_cases h : a.t % 16 = 15 <;> simp [h]
        have h7 : 0 ≤ a.tk.b ∧ a.tk.b ≤ 1 := by simp only [ApuD.tk]; repeat' split <;> omega
        obtain ⟨h7, h8⟩ := h7
        have h9 : 0 ≤ a.tk.l := by simp only [ApuD.tk]; split <;> first | omega | (rename_i h; have := (ApuD.beat_t h).2; omega)
        have h10 : (a.tk.l = 0 ∧ (a.tk.l == 0) = true) ∨ (0 < a.tk.l ∧ (a.tk.l == 0) = false) := by by_cases h : a.tk.l = 0 <;> simp [h] <;> omega
        have ht : a.tk.t = a.t + 1 := rfl
        rcases h6 with ⟨h11, h12⟩ | ⟨h11, h12⟩
        · rcases h10 with ⟨h13, h14⟩ | ⟨h13, h14⟩
          all_goals
            go_wp2_with (first | ((with_reducible refine g_box rfl ?_); (first | refine ev_box (v := .int _ _) H rfl rfl rfl rfl ?_ | refine ev_box (v := .bool _) H rfl rfl rfl rfl ?_ | refine ev_box (v := .slice _ _ _) H rfl rfl rfl rfl ?_ | refine ev_box (v := .agg _) H rfl rfl rfl rfl ?_); intro g_ W_ H_; (clear H; have H := H_; clear H_)) | ((with_reducible refine g_alloc rfl ?_); refine ev_new H rfl rfl ?_; intro g_ W_ H_; (clear H; have H := H_; clear H_)) | ((with_reducible refine g_load rfl ?_); first | refine ev_ld1 H rfl rfl rfl ?_ | refine ev_lda H rfl rfl rfl ?_) | ((with_reducible refine g_store rfl ?_); (first | refine ev_sto (v := .int _ _) H rfl rfl rfl rfl rfl ?_ | refine ev_sto (v := .bool _) H rfl rfl rfl rfl rfl ?_ | refine ev_sto (v := .slice _ _ _) H rfl rfl rfl rfl rfl ?_ | refine ev_sto (v := .agg _) H rfl rfl rfl rfl rfl ?_); intro W_ H_; (clear H; have H := H_; clear H_)))
            all_goals (refine' back2 Tryz.results202 ?_ ?_ rfl ⟨?_, H⟩; rotate_left 2; (focus first | (with_reducible exact rv_tmp rfl) | (refine' rv_agg H rfl ?_ ?_ ?_; rotate_left 4; (focus (repeat (first | (with_reducible exact Pick.here) | (with_reducible apply Pick.there)))); (focus exact aggT rfl); (focus rfl)) | (refine' rv_one H rfl ?_ ?_; rotate_left 3; (focus (repeat (first | (with_reducible exact Pick.here) | (with_reducible apply Pick.there)))); (focus exact oneT rfl))); (focus first | (with_reducible exact rv_tmp rfl) | (refine' rv_agg H rfl ?_ ?_ ?_; rotate_left 4; (focus (repeat (first | (with_reducible exact Pick.here) | (with_reducible apply Pick.there)))); (focus exact aggT rfl); (focus rfl)) | (refine' rv_one H rfl ?_ ?_; rotate_left 3; (focus (repeat (first | (with_reducible exact Pick.here) | (with_reducible apply Pick.there)))); (focus exact oneT rfl))); simp [ApuD.smp, ApuD.told, *])
        · go_wp2_with (first | ((with_reducible refine g_box rfl ?_); (first | refine ev_box (v := .int _ _) H rfl rfl rfl rfl ?_ | refine ev_box (v := .bool _) H rfl rfl rfl rfl ?_ | refine ev_box (v := .slice _ _ _) H rfl rfl rfl rfl ?_ | refine ev_box (v := .agg _) H rfl rfl rfl rfl ?_); intro g_ W_ H_; (clear H; have H := H_; clear H_)) | ((with_reducible refine g_alloc rfl ?_); refine ev_new H rfl rfl ?_; intro g_ W_ H_; (clear H; have H := H_; clear H_)) | ((with_reducible refine g_load rfl ?_); first | refine ev_ld1 H rfl rfl rfl ?_ | refine ev_lda H rfl rfl rfl ?_) | ((with_reducible refine g_store rfl ?_); (first | refine ev_sto (v := .int _ _) H rfl rfl rfl rfl rfl ?_ | refine ev_sto (v := .bool _) H rfl rfl rfl rfl rfl ?_ | refine ev_sto (v := .slice _ _ _) H rfl rfl rfl rfl rfl ?_ | refine ev_sto (v := .agg _) H rfl rfl rfl rfl rfl ?_); intro W_ H_; (clear H; have H := H_; clear H_)))
          all_goals (refine' back2 Tryz.results202 ?_ ?_ rfl ⟨?_, H⟩; rotate_left 2; (focus first | (with_reducible exact rv_tmp rfl) | (refine' rv_agg H rfl ?_ ?_ ?_; rotate_left 4; (focus (repeat (first | (with_reducible exact Pick.here) | (with_reducible apply Pick.there)))); (focus exact aggT rfl); (focus rfl)) | (refine' rv_one H rfl ?_ ?_; rotate_left 3; (focus (repeat (first | (with_reducible exact Pick.here) | (with_reducible apply Pick.there)))); (focus exact oneT rfl))); (focus first | (with_reducible exact rv_tmp rfl) | (refine' rv_agg H rfl ?_ ?_ ?_; rotate_left 4; (focus (repeat (first | (with_reducible exact Pick.here) | (with_reducible apply Pick.there)))); (focus exact aggT rfl); (focus rfl)) | (refine' rv_one H rfl ?_ ?_; rotate_left 3; (focus (repeat (first | (with_reducible exact Pick.here) | (with_reducible apply Pick.there)))); (focus exact oneT rfl))); simp [ApuD.smp, ApuD.told, *])
end Go.Proofs.YtjgggmcnbdjdjaaGreat.B
