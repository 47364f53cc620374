/- What the functions over rows of whole numbers tell: bytes, pads, copies, whether two are alike. -/
import Derived.Test.YtjgggmcnbdjdjaaGreatA
import Derived.Test.YtjgggmcnbdjdjaaGreatR
import Derived.StillTailTactics
namespace Go.Proofs.YtjgggmcnbdjdjaaGreat.B
open Go.RowKit Go.Proofs.YtjgggmcnbdjdjaaGreat.K
attribute [local go_sem] max2_int min2_int max_two min_two i64_and255 i64_and65535 i64_and1
set_option maxRecDepth 20000
set_option linter.unusedVariables false
set_option linter.unusedSimpArgs false
/-- All numbers are in a range. -/
def allB (lo hi : Int) (xs : List Int) : Bool := xs.all fun n => inB n lo hi
theorem allB_at {lo hi : Int} {xs : List Int} (h : allB lo hi xs = true) {k : Nat} (hk : k < xs.length) : inB (rd xs k) lo hi = true := by
  have := List.all_eq_true.1 h xs[k] (List.getElem_mem hk)
  simpa [rd_at hk] using this
theorem allB_no {lo hi : Int} {xs : List Int} {k : Nat} (hk : k < xs.length) (h : ¬ inB (rd xs k) lo hi = true) : allB lo hi xs = false := by
  cases e : allB lo hi xs with
  | false => rfl
  | true => exact absurd (allB_at e hk) h
theorem allB_yes {lo hi : Int} {xs : List Int} (h : ∀ k, k < xs.length → inB (rd xs k) lo hi = true) : allB lo hi xs = true := by
  refine List.all_eq_true.2 fun x hx => ?_
  obtain ⟨k, hk, rfl⟩ := List.getElem_of_mem hx
  simpa [rd_at hk] using h k hk
theorem impl_bytesOk (A : Option Addr) (c : Nat) (xs : List Int) (w : World) (hx : InI w A c xs) : Calls Tryz.prog 184 #[.slice A xs.length c] w fun e w' => e = .returned (.bool (allB 0 255 xs)) ∧ w = w' := by
  have hm := hx.2.1
  go_enter Tryz.func184, Tryz.ntmps184
  go_wp2
  go_loop [7] (fun i => ∃ k : Nat, k ≤ xs.length ∧ i = .int .i64 k ∧ Hid (∀ j, j < k → inB (rd xs j) 0 255 = true)) (fun i => xs.length - (intOf i).toNat)
  case atStart => exact ⟨0, Nat.zero_le _, rfl, fun j hj => absurd hj (Nat.not_lt_zero _)⟩
  case round =>
    obtain ⟨k, hk, rfl, HA⟩ := hrel
    by_cases hlt : k < xs.length
    · obtain ⟨ad, rfl, hc⟩ := hx.cell (St.nil w []) hlt
      clear hx
      by_cases hb : inB (rd xs k) 0 255 = true
      · go_wp2_with (go_at_call 122; (with_reducible refine (impl_isByte _ _).mono ?_); rintro e w1 ⟨rfl, rfl⟩)
        go_round
        case rel => exact ⟨k + 1, by omega, by go_num, fun j hj => if e : j = k then by rw [e]; exact hb else HA.out j (by omega)⟩
        case measure => simp [intOf]; omega
      · go_wp2_with (go_at_call 122; (with_reducible refine (impl_isByte _ _).mono ?_); rintro e w1 ⟨rfl, rfl⟩)
        go_ret
        exact ⟨ret_b (allB_no hlt hb).symm, rfl⟩
    · go_wp2
      go_ret
      exact ⟨ret_b (allB_yes fun j hj => HA.out j (by omega)).symm, rfl⟩
def padsB (xs : List Int) : Bool := decide (xs.length ≤ 20) && allB 0 255 xs
theorem impl_PadsOk (A : Option Addr) (c : Nat) (xs : List Int) (w : World) (hx : InI w A c xs) : Calls Tryz.prog 118 #[.slice A xs.length c] w fun e w' => e = .returned (.bool (padsB xs)) ∧ w = w' := by
  have hm := hx.2.1
  have h0 : (decide (xs.length ≤ 20) = true ∧ xs.length ≤ 20) ∨ (decide (xs.length ≤ 20) = false ∧ ¬ xs.length ≤ 20) := by by_cases h : xs.length ≤ 20 <;> simp [h]
  rcases h0 with ⟨h0, h1⟩ | ⟨h0, h1⟩
  all_goals
    go_enter Tryz.func118, Tryz.ntmps118
    go_wp2_with (go_at_call 184; (with_reducible refine (impl_bytesOk _ _ _ _ hx).mono ?_); rintro e w1 ⟨rfl, rfl⟩)
    go_ret
    exact ⟨ret_b (by simp [padsB, *]), rfl⟩
theorem spec_PadsOk (A : Option Addr) (c : Nat) (xs : List Int) (w : World) (hx : InI w A c xs) : Calls Tryz.prog 101 #[.slice A xs.length c] w fun e w' => e = .returned (.bool (padsB xs)) ∧ w = w' := by
  have hm := hx.2.1
  go_enter Tryz.func101, Tryz.ntmps101
  go_wp2
  go_loop [3] (fun i => ∃ k : Nat, k ≤ xs.length ∧ i = .int .i64 k ∧ Hid (∀ j, j < k → inB (rd xs j) 0 255 = true)) (fun i => xs.length - (intOf i).toNat)
  case atStart => exact ⟨0, Nat.zero_le _, rfl, fun j hj => absurd hj (Nat.not_lt_zero _)⟩
  case round =>
    obtain ⟨k, hk, rfl, HA⟩ := hrel
    by_cases hlt : k < xs.length
    · obtain ⟨ad, rfl, hc⟩ := hx.cell (St.nil w []) hlt
      clear hx
      by_cases hb : inB (rd xs k) 0 255 = true
      · go_wp2_with (go_at_call 106; (with_reducible refine (spec_l5Byte _ _).mono ?_); rintro e w1 ⟨rfl, rfl⟩)
        go_round
        case rel => exact ⟨k + 1, by omega, by go_num, fun j hj => if e : j = k then by rw [e]; exact hb else HA.out j (by omega)⟩
        case measure => simp [intOf]; omega
      · go_wp2_with (go_at_call 106; (with_reducible refine (spec_l5Byte _ _).mono ?_); rintro e w1 ⟨rfl, rfl⟩)
        go_ret
        exact ⟨ret_b (by simp [padsB, allB_no hlt hb]), rfl⟩
    · go_wp2
      go_ret
      exact ⟨ret_b (by simp [padsB, allB_yes fun j hj => HA.out j (by omega)]; try omega), rfl⟩
set_option maxHeartbeats 1000000 in
theorem laws_toIntS (A : Option Addr) (c : Nat) (xs : List Int) (w : World) (hx : InI w A c xs) (hs : xs.length ≤ 1048576) :
    Calls Tryz.prog 22 #[.slice A xs.length c] w fun e w' => ∃ g, e = .returned (.slice (some ⟨g, 0, none⟩) xs.length xs.length) ∧ St w [] w' [Ast.ints (some ⟨g, 0, none⟩) xs.length xs] := by
  have H := St.nil w []
  have hm := hx.2.1
  go_enter Tryz.func22, Tryz.ntmps22
  go_wp2_with ((with_reducible refine g_make rfl ?_); refine ev_make H rfl rfl Tryz.underlying25 info_int rfl rfl rfl rfl (by omega) (by omega) ?_; intro g_ W_ H_; rw [made_nums] at H_; (clear H; have H := H_; clear H_))
  go_loopw [4] (fun i wr => ∃ (k : Nat) (cur : List Int), k ≤ xs.length ∧ i = .int .i64 k ∧ cur.length = xs.length ∧ Hid (∀ j, j < k → rd cur j = rd xs j) ∧ St w [] wr [Ast.own 3 1 (some ⟨g_, 0, none⟩) xs.length xs.length (nums cur)]) (fun i _ => xs.length - (intOf i).toNat)
  case atStart => exact ⟨0, _, Nat.zero_le _, rfl, by simp, fun j hj => absurd hj (Nat.not_lt_zero _), H⟩
  case round =>
    clear H
    obtain ⟨k, cur, hk, rfl, hl, HA, H⟩ := hrel
    have HL := Lib.hid hl
    by_cases hlt : k < xs.length
    · obtain ⟨ad, rfl, hc⟩ := hx.cell H hlt
      clear hx hl
      go_wp2_with ((with_reducible refine g_store rfl ?_); refine' ev_store_own (v := .int _ _) H rfl rfl rfl rfl rfl ?_ ?_ ?_ ?_ ?_ ?_ ?_; rotate_left 8; (focus (repeat (first | (with_reducible exact Pick.here) | (with_reducible apply Pick.there)))); (focus exact szT rfl); (focus rfl); (focus (rw [nums_length, HL.out]; exact hlt)); (focus rfl); (focus exact nums_set cur k _ (by rw [HL.out]; exact hlt)); intro W_ H_; (clear H; have H := H_; clear H_))
      go_roundw
      case rel => exact ⟨k + 1, cur.set k (rd xs k), by omega, by go_num, by rw [List.length_set]; exact HL.out, fun j hj => if e : j = k then by rw [e]; simp [rd, HL.out, hlt] else by have := HA.out j (by omega); simpa [rd, List.getD_eq_getElem?_getD, List.getElem?_set, Ne.symm e] using this, H⟩
      case measure => simp [intOf]; omega
    · go_wp2
      go_ret
      have he : cur = xs := rd_ext HL.out fun j hj => HA.out j (by have := HL.out; omega)
      subst he
      exact ⟨_, rfl, H⟩
/-- Two rows that are alike. -/
theorem laws_eqIntS (A B : Option Addr) (c d : Nat) (xs : List Int) (w : World) (hx : InI w A c xs) (hy : InI w B d xs) :
    Calls Tryz.prog 26 #[.slice A xs.length c, .slice B xs.length d] w fun e w' => e = .returned (.bool true) ∧ St w [] w' [] := by
  have H := St.nil w []
  have hm := hx.2.1
  go_enter Tryz.func26, Tryz.ntmps26
  go_wp2
  go_loopw [5] (fun i wr => ∃ k : Nat, k ≤ xs.length ∧ i = .int .i64 k ∧ St w [] wr []) (fun i _ => xs.length - (intOf i).toNat)
  case atStart => exact ⟨0, Nat.zero_le _, rfl, H⟩
  case round =>
    clear H
    obtain ⟨k, hk, rfl, H⟩ := hrel
    by_cases hlt : k < xs.length
    · obtain ⟨ad, rfl, hc⟩ := hx.cell H hlt
      obtain ⟨ae, rfl, hd⟩ := hy.cell H hlt
      clear hx hy
      have hl1 : (k : Int) < (xs.length : Int) := by omega
      go_wp2
      go_quiet (fail)
      have H_ := H.drewN nq
      (clear H; have H := H_; clear H_)
      go_wp2
      go_roundw
      case rel => exact ⟨k + 1, by omega, by go_num, H⟩
      case measure => simp [intOf]; omega
    · go_wp2
      go_ret
      exact ⟨rfl, H⟩
/-- What is pressed at a time. -/
def padAt (xs : List Int) (t : Int) : Int := if padsB xs = true ∧ ¬ xs.length = 0 then rd xs (frm t % (xs.length : Int)).toNat else 0
theorem padAt_byte (xs : List Int) (t : Int) : 0 ≤ padAt xs t ∧ padAt xs t ≤ 255 := by
  unfold padAt
  split
  · rename_i h
    have hn : (0 : Int) < xs.length := by have := h.2; omega
    have h1 : 0 ≤ frm t % (xs.length : Int) := Int.emod_nonneg _ (by omega)
    have h2 : frm t % (xs.length : Int) < xs.length := Int.emod_lt_of_pos _ hn
    have h3 := h.1
    simp only [padsB, Bool.and_eq_true] at h3
    exact inB_iff.1 (allB_at h3.2 (k := (frm t % (xs.length : Int)).toNat) (by omega))
  · omega
set_option maxHeartbeats 1000000 in
theorem impl_PadAt (A : Option Addr) (c : Nat) (xs : List Int) (t : Int) (w : World) (hx : InI w A c xs) (ht : t ≤ 9223372036854775807) : Calls Tryz.prog 190 #[.slice A xs.length c, .int .i64 t] w fun e w' => e = .returned (.int .i64 (padAt xs t)) ∧ w = w' := by
  have hm := hx.2.1
  cases hp : padsB xs
  · have e0 : padAt xs t = 0 := by simp [padAt, hp]
    rw [e0]
    clear e0
    go_enter Tryz.func190, Tryz.ntmps190
    go_wp2_with (first | (go_at_call 118; (with_reducible refine (impl_PadsOk _ _ _ _ hx).mono ?_); rintro e w1 ⟨rfl, rfl⟩))
    go_ret
    exact ⟨rfl, rfl⟩
  · by_cases h0 : xs.length = 0
    · have e0 : padAt xs t = 0 := by simp [padAt, h0]
      rw [e0]
      have hn : ((xs.length : Int) == 0) = true := by simp [h0]
      have hn2 : (xs.length == 0) = true := by simp [h0]
      clear e0 h0
      go_enter Tryz.func190, Tryz.ntmps190
      go_wp2_with (first | (go_at_call 118; (with_reducible refine (impl_PadsOk _ _ _ _ hx).mono ?_); rintro e w1 ⟨rfl, rfl⟩))
      go_ret
      exact ⟨rfl, rfl⟩
    · have hf := frm_0 t
      have hn : (0 : Int) < xs.length := by omega
      have h1 : 0 ≤ frm t % (xs.length : Int) := Int.emod_nonneg _ (by omega)
      have h2 : frm t % (xs.length : Int) < xs.length := Int.emod_lt_of_pos _ hn
      have hj : (frm t % (xs.length : Int)).toNat < xs.length := by omega
      have e0 : padAt xs t = rd xs (frm t % (xs.length : Int)).toNat := by simp [padAt, hp, h0]
      rw [e0]
      clear e0
      obtain ⟨ad, rfl, hc⟩ := hx.cell (St.nil w []) hj
      have hz : (xs.length == 0) = false := by simp [h0]
      have hz2 : ((xs.length : Int) == 0) = false := by simp [h0]
      have hz3 : xs ≠ [] := by intro e; exact h0 (by simp [e])
      go_enter Tryz.func190, Tryz.ntmps190
      go_wp2_with (first | (go_at_call 118; (with_reducible refine (impl_PadsOk _ _ _ _ hx).mono ?_); rintro e w1 ⟨rfl, rfl⟩) | (go_at_call 217; (with_reducible refine (impl_FrameOf _ _ ht).mono ?_); rintro e w1 ⟨rfl, rfl⟩))
      go_ret
      exact ⟨rfl, rfl⟩
set_option maxHeartbeats 1000000 in
theorem spec_PadAt (A : Option Addr) (c : Nat) (xs : List Int) (t : Int) (w : World) (hx : InI w A c xs) (ht : t ≤ 9223372036854775807) : Calls Tryz.prog 182 #[.slice A xs.length c, .int .i64 t] w fun e w' => e = .returned (.int .i64 (padAt xs t)) ∧ w = w' := by
  have hm := hx.2.1
  cases hp : padsB xs
  · have e0 : padAt xs t = 0 := by simp [padAt, hp]
    rw [e0]
    clear e0
    go_enter Tryz.func182, Tryz.ntmps182
    go_wp2_with (first | (go_at_call 101; (with_reducible refine (spec_PadsOk _ _ _ _ hx).mono ?_); rintro e w1 ⟨rfl, rfl⟩))
    go_ret
    exact ⟨rfl, rfl⟩
  · by_cases h0 : xs.length = 0
    · have e0 : padAt xs t = 0 := by simp [padAt, h0]
      rw [e0]
      have hn : ((xs.length : Int) == 0) = true := by simp [h0]
      have hn2 : (xs.length == 0) = true := by simp [h0]
      clear e0 h0
      go_enter Tryz.func182, Tryz.ntmps182
      go_wp2_with (first | (go_at_call 101; (with_reducible refine (spec_PadsOk _ _ _ _ hx).mono ?_); rintro e w1 ⟨rfl, rfl⟩))
      go_ret
      exact ⟨rfl, rfl⟩
    · have hf := frm_0 t
      have hn : (0 : Int) < xs.length := by omega
      have h1 : 0 ≤ frm t % (xs.length : Int) := Int.emod_nonneg _ (by omega)
      have h2 : frm t % (xs.length : Int) < xs.length := Int.emod_lt_of_pos _ hn
      have hj : (frm t % (xs.length : Int)).toNat < xs.length := by omega
      have e0 : padAt xs t = rd xs (frm t % (xs.length : Int)).toNat := by simp [padAt, hp, h0]
      rw [e0]
      clear e0
      obtain ⟨ad, rfl, hc⟩ := hx.cell (St.nil w []) hj
      have hz : (xs.length == 0) = false := by simp [h0]
      have hz2 : ((xs.length : Int) == 0) = false := by simp [h0]
      have hz3 : xs ≠ [] := by intro e; exact h0 (by simp [e])
      go_enter Tryz.func182, Tryz.ntmps182
      go_wp2_with (first | (go_at_call 101; (with_reducible refine (spec_PadsOk _ _ _ _ hx).mono ?_); rintro e w1 ⟨rfl, rfl⟩) | (go_at_call 216; (with_reducible refine (spec_FrameOf _ _ ht).mono ?_); rintro e w1 ⟨rfl, rfl⟩))
      go_ret
      exact ⟨rfl, rfl⟩
structure PadD where (h : Bool) (s : Int)
def PadD.write (x : PadD) (xs : List Int) (t v : Int) : PadD := { h := (v % 2 == 1), s := if (v % 2 == 1) = true ∨ x.h = true then padAt xs t else x.s }
def PadD.read (x : PadD) (xs : List Int) (t : Int) : PadD := if x.h = true then { h := true, s := padAt xs t } else { h := false, s := x.s / 2 }
def PadD.says (x : PadD) (xs : List Int) (t : Int) : Int := if x.h = true then padAt xs t % 2 else x.s % 2
theorem laws_toPad (a : PadD) (w : World) : Calls Tryz.prog 46 #[.agg #[.bool a.h, .int .i64 a.s]] w fun e w' => e = .returned (.agg #[.bool a.h, .int .i64 a.s]) ∧ Below w.heap.size w w' := by
  have H := St.nil w []
  go_enter Tryz.func46, Tryz.ntmps46
  go_wp2_with (first | ((with_reducible refine g_box rfl ?_); (first | refine ev_box (v := .int _ _) H rfl rfl rfl rfl ?_ | refine ev_box (v := .bool _) H rfl rfl rfl rfl ?_ | refine ev_box (v := .slice _ _ _) H rfl rfl rfl rfl ?_ | refine ev_box (v := .agg _) H rfl rfl rfl rfl ?_); intro g_ W_ H_; (clear H; have H := H_; clear H_)) | ((with_reducible refine g_alloc rfl ?_); refine ev_new H rfl rfl ?_; intro g_ W_ H_; (clear H; have H := H_; clear H_)) | ((with_reducible refine g_load rfl ?_); first | refine ev_ld1 H rfl rfl rfl ?_ | refine ev_lda H rfl rfl rfl ?_) | ((with_reducible refine g_store rfl ?_); (first | refine ev_sto (v := .int _ _) H rfl rfl rfl rfl rfl ?_ | refine ev_sto (v := .bool _) H rfl rfl rfl rfl rfl ?_ | refine ev_sto (v := .slice _ _ _) H rfl rfl rfl rfl rfl ?_ | refine ev_sto (v := .agg _) H rfl rfl rfl rfl rfl ?_); intro W_ H_; (clear H; have H := H_; clear H_)))
  refine' back1 Tryz.results46 ?_ rfl ⟨?_, H.below⟩; rotate_left 1; (focus first | (with_reducible exact rv_tmp rfl) | (refine' rv_agg H rfl ?_ ?_ ?_; rotate_left 4; (focus (repeat (first | (with_reducible exact Pick.here) | (with_reducible apply Pick.there)))); (focus exact aggT rfl); (focus rfl)) | (refine' rv_one H rfl ?_ ?_; rotate_left 3; (focus (repeat (first | (with_reducible exact Pick.here) | (with_reducible apply Pick.there)))); (focus exact oneT rfl)))
  rfl
theorem laws_eqPad (a : PadD) (w : World) : Calls Tryz.prog 55 #[.agg #[.bool a.h, .int .i64 a.s], .agg #[.bool a.h, .int .i64 a.s]] w fun e w' => e = .returned (.bool true) ∧ Below w.heap.size w w' := by
  have H := St.nil w []
  go_enter Tryz.func55, Tryz.ntmps55
  go_wp2_with (first | ((with_reducible refine g_box rfl ?_); (first | refine ev_box (v := .int _ _) H rfl rfl rfl rfl ?_ | refine ev_box (v := .bool _) H rfl rfl rfl rfl ?_ | refine ev_box (v := .slice _ _ _) H rfl rfl rfl rfl ?_ | refine ev_box (v := .agg _) H rfl rfl rfl rfl ?_); intro g_ W_ H_; (clear H; have H := H_; clear H_)) | ((with_reducible refine g_alloc rfl ?_); refine ev_new H rfl rfl ?_; intro g_ W_ H_; (clear H; have H := H_; clear H_)) | ((with_reducible refine g_load rfl ?_); first | refine ev_ld1 H rfl rfl rfl ?_ | refine ev_lda H rfl rfl rfl ?_) | ((with_reducible refine g_store rfl ?_); (first | refine ev_sto (v := .int _ _) H rfl rfl rfl rfl rfl ?_ | refine ev_sto (v := .bool _) H rfl rfl rfl rfl rfl ?_ | refine ev_sto (v := .slice _ _ _) H rfl rfl rfl rfl rfl ?_ | refine ev_sto (v := .agg _) H rfl rfl rfl rfl rfl ?_); intro W_ H_; (clear H; have H := H_; clear H_)))
  all_goals (go_ret; exact ⟨rfl, H.below⟩)
set_option maxHeartbeats 2000000 in
theorem impl_PadWrite (x : PadD) (A : Option Addr) (c : Nat) (xs : List Int) (t v : Int) (w : World) (hx : InI w A c xs) (ht : t ≤ 9223372036854775807) : Calls Tryz.prog 138 #[.agg #[.bool x.h, .int .i64 x.s], .slice A xs.length c, .int .i64 t, .int .i64 v] w fun e w' => e = .returned (.agg #[.bool (x.write xs t v).h, .int .i64 (x.write xs t v).s]) ∧ Below w.heap.size w w' := by
  have H := St.nil w []
  cases h1 : (v % 2 == 1) <;> cases h2 : x.h
  all_goals
    go_enter Tryz.func138, Tryz.ntmps138
    go_wp2_with (first | ((with_reducible refine g_box rfl ?_); (first | refine ev_box (v := .int _ _) H rfl rfl rfl rfl ?_ | refine ev_box (v := .bool _) H rfl rfl rfl rfl ?_ | refine ev_box (v := .slice _ _ _) H rfl rfl rfl rfl ?_ | refine ev_box (v := .agg _) H rfl rfl rfl rfl ?_); intro g_ W_ H_; (clear H; have H := H_; clear H_)) | ((with_reducible refine g_alloc rfl ?_); refine ev_new H rfl rfl ?_; intro g_ W_ H_; (clear H; have H := H_; clear H_)) | ((with_reducible refine g_load rfl ?_); first | refine ev_ld1 H rfl rfl rfl ?_ | refine ev_lda H rfl rfl rfl ?_) | ((with_reducible refine g_store rfl ?_); (first | refine ev_sto (v := .int _ _) H rfl rfl rfl rfl rfl ?_ | refine ev_sto (v := .bool _) H rfl rfl rfl rfl rfl ?_ | refine ev_sto (v := .slice _ _ _) H rfl rfl rfl rfl rfl ?_ | refine ev_sto (v := .agg _) H rfl rfl rfl rfl rfl ?_); intro W_ H_; (clear H; have H := H_; clear H_)) | (go_at_call 190; refine (impl_PadAt _ _ _ _ _ (hx.on H) ht).mono ?_; rintro e w1 ⟨rfl, rfl⟩))
    all_goals (refine' back1 Tryz.results138 ?_ rfl ⟨?_, H.below⟩; rotate_left 1; (focus first | (with_reducible exact rv_tmp rfl) | (refine' rv_agg H rfl ?_ ?_ ?_; rotate_left 4; (focus (repeat (first | (with_reducible exact Pick.here) | (with_reducible apply Pick.there)))); (focus exact aggT rfl); (focus rfl)) | (refine' rv_one H rfl ?_ ?_; rotate_left 3; (focus (repeat (first | (with_reducible exact Pick.here) | (with_reducible apply Pick.there)))); (focus exact oneT rfl))); clear H; simp_all [PadD.write])
set_option maxHeartbeats 2000000 in
theorem spec_PadWrite (x : PadD) (A : Option Addr) (c : Nat) (xs : List Int) (t v : Int) (w : World) (hx : InI w A c xs) (ht : t ≤ 9223372036854775807) : Calls Tryz.prog 134 #[.agg #[.bool x.h, .int .i64 x.s], .slice A xs.length c, .int .i64 t, .int .i64 v] w fun e w' => e = .returned (.agg #[.bool (x.write xs t v).h, .int .i64 (x.write xs t v).s]) ∧ Below w.heap.size w w' := by
  have H := St.nil w []
  cases h1 : (v % 2 == 1) <;> cases h2 : x.h
  all_goals
    go_enter Tryz.func134, Tryz.ntmps134
    go_wp2_with (first | ((with_reducible refine g_box rfl ?_); (first | refine ev_box (v := .int _ _) H rfl rfl rfl rfl ?_ | refine ev_box (v := .bool _) H rfl rfl rfl rfl ?_ | refine ev_box (v := .slice _ _ _) H rfl rfl rfl rfl ?_ | refine ev_box (v := .agg _) H rfl rfl rfl rfl ?_); intro g_ W_ H_; (clear H; have H := H_; clear H_)) | ((with_reducible refine g_alloc rfl ?_); refine ev_new H rfl rfl ?_; intro g_ W_ H_; (clear H; have H := H_; clear H_)) | ((with_reducible refine g_load rfl ?_); first | refine ev_ld1 H rfl rfl rfl ?_ | refine ev_lda H rfl rfl rfl ?_) | ((with_reducible refine g_store rfl ?_); (first | refine ev_sto (v := .int _ _) H rfl rfl rfl rfl rfl ?_ | refine ev_sto (v := .bool _) H rfl rfl rfl rfl rfl ?_ | refine ev_sto (v := .slice _ _ _) H rfl rfl rfl rfl rfl ?_ | refine ev_sto (v := .agg _) H rfl rfl rfl rfl rfl ?_); intro W_ H_; (clear H; have H := H_; clear H_)) | (go_at_call 182; refine (spec_PadAt _ _ _ _ _ (hx.on H) ht).mono ?_; rintro e w1 ⟨rfl, rfl⟩))
    all_goals (refine' back1 Tryz.results134 ?_ rfl ⟨?_, H.below⟩; rotate_left 1; (focus first | (with_reducible exact rv_tmp rfl) | (refine' rv_agg H rfl ?_ ?_ ?_; rotate_left 4; (focus (repeat (first | (with_reducible exact Pick.here) | (with_reducible apply Pick.there)))); (focus exact aggT rfl); (focus rfl)) | (refine' rv_one H rfl ?_ ?_; rotate_left 3; (focus (repeat (first | (with_reducible exact Pick.here) | (with_reducible apply Pick.there)))); (focus exact oneT rfl))); clear H; simp_all [PadD.write])
end Go.Proofs.YtjgggmcnbdjdjaaGreat.B
