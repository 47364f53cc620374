/- What the tests and copies of the picture unit tell. -/
import Derived.Test.YtjgggmcnbdjdjaaGreatD
import Derived.BigGuardPart
namespace Go.Proofs.YtjgggmcnbdjdjaaGreat.C
open Go.RowKit Go.Proofs.YtjgggmcnbdjdjaaGreat.K Go.Proofs.YtjgggmcnbdjdjaaGreat.B
attribute [local go_sem] max2_int min2_int max_two min_two i64_and255 i64_and65535 i64_and1
set_option maxRecDepth 20000
set_option linter.unusedVariables false
set_option linter.unusedSimpArgs false
theorem impl_colorsOk (A : Option Addr) (c : Nat) (xs : List Int) (w : World) (hx : InI w A c xs) : Calls Tryz.prog 185 #[.slice A xs.length c] w fun e w' => e = .returned (.bool (allB 0 63 xs)) ∧ w = w' := by
  have hm := hx.2.1
  go_enter Tryz.func185, Tryz.ntmps185
  go_wp2
  go_loop [7] (fun i => ∃ k : Nat, k ≤ xs.length ∧ i = .int .i64 k ∧ Hid (∀ j, j < k → inB (rd xs j) 0 63 = true)) (fun i => xs.length - (intOf i).toNat)
  case atStart => exact ⟨0, Nat.zero_le _, rfl, fun j hj => absurd hj (Nat.not_lt_zero _)⟩
  case round =>
    obtain ⟨k, hk, rfl, HA⟩ := hrel
    by_cases hlt : k < xs.length
    · obtain ⟨ad, rfl, hc⟩ := hx.cell (St.nil w []) hlt
      clear hx
      by_cases hb : inB (rd xs k) 0 63 = true
      · go_wp2_with (go_at_call 123; (with_reducible refine (impl_within _ _ _ _).mono ?_); rintro e w1 ⟨rfl, rfl⟩)
        go_round
        case rel => exact ⟨k + 1, by omega, by go_num, fun j hj => if e : j = k then by rw [e]; exact hb else HA.out j (by omega)⟩
        case measure => simp [intOf]; omega
      · go_wp2_with (go_at_call 123; (with_reducible refine (impl_within _ _ _ _).mono ?_); rintro e w1 ⟨rfl, rfl⟩)
        go_ret
        exact ⟨ret_b (allB_no hlt hb).symm, rfl⟩
    · go_wp2
      go_ret
      exact ⟨ret_b (allB_yes fun j hj => HA.out j (by omega)).symm, rfl⟩
/-- How many dots there are at a time. -/
def dotsN (t : Int) : Int := if 48 < t % 64 then 0 else t % 64
def PpuD.ok (x : PpuD) : Bool := inB x.t 0 20000 && (inB x.ctrl 0 255 && (inB x.scroll 0 255 && (inB x.addr 0 15 && (inB x.pal 0 63 && ((x.table.length : Int) == 16 && (allB 0 63 x.table && ((x.dots.length : Int) == dotsN x.t && allB 0 63 x.dots)))))))
set_option maxHeartbeats 8000000 in
theorem impl_PpuOk (x : PpuD) (q : PpuP) (w : World) (hx : PpuIn w x q) : Calls Tryz.prog 120 #[.agg #[.int .i64 x.t, .int .i64 x.ctrl, .int .i64 x.scroll, .int .i64 x.addr, .int .i64 x.pal, .bool x.blank, .slice q.table.A x.table.length q.table.c, .slice q.dots.A x.dots.length q.dots.c]] w fun e w' => e = .returned (.bool x.ok) ∧ Below w.heap.size w w' := by
  have H := St.nil w []
  have ht := hx.table
  have hd := hx.dots
  have hm1 := ht.2.1
  have hm2 := hd.2.1
  cases h0 : inB x.t 0 20000
  · go_enter Tryz.func120, Tryz.ntmps120
    go_wp2_with (first | ((with_reducible refine g_box rfl ?_); (first | refine ev_box (v := .int _ _) H rfl rfl rfl rfl ?_ | refine ev_box (v := .bool _) H rfl rfl rfl rfl ?_ | refine ev_box (v := .slice _ _ _) H rfl rfl rfl rfl ?_ | refine ev_box (v := .agg _) H rfl rfl rfl rfl ?_); intro g_ W_ H_; (clear H; have H := H_; clear H_)) | ((with_reducible refine g_alloc rfl ?_); refine ev_new H rfl rfl ?_; intro g_ W_ H_; (clear H; have H := H_; clear H_)) | ((with_reducible refine g_load rfl ?_); first | refine ev_ld1 H rfl rfl rfl ?_ | refine ev_lda H rfl rfl rfl ?_) | ((with_reducible refine g_store rfl ?_); (first | refine ev_sto (v := .int _ _) H rfl rfl rfl rfl rfl ?_ | refine ev_sto (v := .bool _) H rfl rfl rfl rfl rfl ?_ | refine ev_sto (v := .slice _ _ _) H rfl rfl rfl rfl rfl ?_ | refine ev_sto (v := .agg _) H rfl rfl rfl rfl rfl ?_); intro W_ H_; (clear H; have H := H_; clear H_)) | (go_at_call 156; (with_reducible refine (impl_isTime _ _).mono ?_); rintro e w1 ⟨rfl, rfl⟩))
    go_ret
    exact ⟨ret_b (by simp [PpuD.ok, h0]), H.below⟩
  · obtain ⟨b0, b1⟩ := inB_iff.1 h0
    have hdn : dotsN x.t = if 48 < x.t % 64 then 0 else x.t % 64 := rfl
    have HD := Lib.hid hdn
    clear hdn
    cases hp : inB x.pal 0 63
    all_goals by_cases hk : 48 < x.t % 64
    all_goals
      go_enter Tryz.func120, Tryz.ntmps120
      go_wp2_with (first | ((with_reducible refine g_box rfl ?_); (first | refine ev_box (v := .int _ _) H rfl rfl rfl rfl ?_ | refine ev_box (v := .bool _) H rfl rfl rfl rfl ?_ | refine ev_box (v := .slice _ _ _) H rfl rfl rfl rfl ?_ | refine ev_box (v := .agg _) H rfl rfl rfl rfl ?_); intro g_ W_ H_; (clear H; have H := H_; clear H_)) | ((with_reducible refine g_alloc rfl ?_); refine ev_new H rfl rfl ?_; intro g_ W_ H_; (clear H; have H := H_; clear H_)) | ((with_reducible refine g_load rfl ?_); first | refine ev_ld1 H rfl rfl rfl ?_ | refine ev_lda H rfl rfl rfl ?_) | ((with_reducible refine g_store rfl ?_); (first | refine ev_sto (v := .int _ _) H rfl rfl rfl rfl rfl ?_ | refine ev_sto (v := .bool _) H rfl rfl rfl rfl rfl ?_ | refine ev_sto (v := .slice _ _ _) H rfl rfl rfl rfl rfl ?_ | refine ev_sto (v := .agg _) H rfl rfl rfl rfl rfl ?_); intro W_ H_; (clear H; have H := H_; clear H_)) | (go_at_call 156; (with_reducible refine (impl_isTime _ _).mono ?_); rintro e w1 ⟨rfl, rfl⟩) | (go_at_call 122; (with_reducible refine (impl_isByte _ _).mono ?_); rintro e w1 ⟨rfl, rfl⟩) | (go_at_call 123; (with_reducible refine (impl_within _ _ _ _).mono ?_); rintro e w1 ⟨rfl, rfl⟩) | (go_at_call 185; (with_reducible refine (impl_colorsOk _ _ _ _ (ht.on H)).mono ?_); rintro e w1 ⟨rfl, rfl⟩) | (go_at_call 185; (with_reducible refine (impl_colorsOk _ _ _ _ (hd.on H)).mono ?_); rintro e w1 ⟨rfl, rfl⟩))
      all_goals (go_ret; refine ⟨ret_b ?_, H.below⟩; clear H; have HD := HD.out; (first | rw [if_pos (by omega)] at HD | rw [if_neg (by omega)] at HD); (first | (simp [PpuD.ok, *]; done) | (simp [PpuD.ok, *]; intro hn_; simp_all)))
theorem spec_l8Dots (t : Int) (h0 : 0 ≤ t) (w : World) : Calls Tryz.prog 178 #[.int .i64 t] w fun e w' => e = .returned (.int .i64 (dotsN t)) ∧ w = w' := by
  have HD := Lib.hid (show dotsN t = if 48 < t % 64 then 0 else t % 64 from rfl)
  by_cases hk : 48 < t % 64
  all_goals
    go_enter Tryz.func178, Tryz.ntmps178
    go_wp2
    go_ret
    have HD := HD.out; (first | rw [if_pos (by omega)] at HD | rw [if_neg (by omega)] at HD)
    exact ⟨ret_i HD.symm, rfl⟩
theorem impl_copyInts (A : Option Addr) (c : Nat) (xs : List Int) (w : World) (hx : InI w A c xs) (hs : xs.length ≤ 1048576) : Calls Tryz.prog 78 #[.slice A xs.length c] w fun e w' => ∃ q : Sl, e = .returned (.slice q.A xs.length q.c) ∧ St w [] w' [intsA q xs] := by
  have H := St.nil w []
  go_enter Tryz.func78, Tryz.ntmps78
  go_wp2_with (first | ((with_reducible refine g_buildSlice rfl ?_); refine ev_buildSlice0 H rfl rfl Tryz.underlying25 info_int ?_; intro g_ W_ H_; (clear H; have H := H_; clear H_)) | ((with_reducible refine g_append rfl ?_); refine ev_appendN (N := xs.length) (cs' := nums xs) H rfl rfl Tryz.underlying25 info_int rfl (by decide) rfl rfl (by (repeat (first | (with_reducible exact Pick.here) | (with_reducible apply Pick.there)))) (hx.on H).in (hx.none) (by rw [nums_length]; omega) (nums_one' _) (by omega) (by unfold maxLen; omega) (Nat.zero_add _) (List.nil_append _) ?_; intro A_ c_ W_ H_; (clear H; have H := H_; clear H_)))
  go_ret
  exact ⟨⟨A_, c_⟩, rfl, H⟩
set_option maxHeartbeats 2000000 in
theorem impl_copyPpu (x : PpuD) (q : PpuP) (w : World) (hx : PpuIn w x q) (hs : PpuSmall x) : Calls Tryz.prog 115 #[.agg #[.int .i64 x.t, .int .i64 x.ctrl, .int .i64 x.scroll, .int .i64 x.addr, .int .i64 x.pal, .bool x.blank, .slice q.table.A x.table.length q.table.c, .slice q.dots.A x.dots.length q.dots.c]] w fun e w' => ∃ q', e = .returned (.agg #[.int .i64 x.t, .int .i64 x.ctrl, .int .i64 x.scroll, .int .i64 x.addr, .int .i64 x.pal, .bool x.blank, .slice q'.table.A x.table.length q'.table.c, .slice q'.dots.A x.dots.length q'.dots.c]) ∧ St w [] w' [ppuA x q'] := by
  have H := St.nil w []
  go_enter Tryz.func115, Tryz.ntmps115
  go_wp2_with (first | ((with_reducible refine g_box rfl ?_); (first | refine ev_box (v := .int _ _) H rfl rfl rfl rfl ?_ | refine ev_box (v := .bool _) H rfl rfl rfl rfl ?_ | refine ev_box (v := .slice _ _ _) H rfl rfl rfl rfl ?_ | refine ev_box (v := .agg _) H rfl rfl rfl rfl ?_); intro g_ W_ H_; (clear H; have H := H_; clear H_)) | ((with_reducible refine g_alloc rfl ?_); refine ev_new H rfl rfl ?_; intro g_ W_ H_; (clear H; have H := H_; clear H_)) | ((with_reducible refine g_load rfl ?_); first | refine ev_ld1 H rfl rfl rfl ?_ | refine ev_lda H rfl rfl rfl ?_) | ((with_reducible refine g_store rfl ?_); (first | refine ev_sto (v := .int _ _) H rfl rfl rfl rfl rfl ?_ | refine ev_sto (v := .bool _) H rfl rfl rfl rfl rfl ?_ | refine ev_sto (v := .slice _ _ _) H rfl rfl rfl rfl rfl ?_ | refine ev_sto (v := .agg _) H rfl rfl rfl rfl rfl ?_); intro W_ H_; (clear H; have H := H_; clear H_)) | (go_at_call 78; (with_reducible refine (impl_copyInts _ _ _ _ (hx.table.on H) hs.table).mono ?_); rintro e w1 ⟨qa_, rfl, kq⟩; have H_ := H.call kq; simp only [List.cons_append, List.nil_append] at H_; (clear H; have H := H_; clear H_); clear kq) | (go_at_call 78; (with_reducible refine (impl_copyInts _ _ _ _ (hx.dots.on H) hs.dots).mono ?_); rintro e w1 ⟨qb_, rfl, kq⟩; have H_ := H.call kq; simp only [List.cons_append, List.nil_append] at H_; (clear H; have H := H_; clear H_); clear kq))
  (with_reducible refine g_draw ?_)
  try simp only [Act.put, List.setIfInBounds_toArray, List.set_cons_succ, List.set_cons_zero]
  refine F_begin (ls := #[false, false, false, false, false, false, false, false, false, false]) (by kernel_rfl) rfl (by kernel_rfl) ?_
  have H_ := H.drew
  (clear H; have H := H_; clear H_)
  refine T_go [(0, 0, 3), (1, 1, 4), (0, 3, 6), (1, 4, 7)] ?_; (repeat (first | (refine' T_pure _ rfl rfl (by kernel_rfl) (Nat.le_of_ble_eq_true (by kernel_rfl)) (fun w2_ K_ hK_ => ?_) ?_; rotate_left 1; focus ((conv => (arg 4; arg 1; whnf)); (repeat (first | exact hK_ rfl | go_step | go_guarded | go_upon | dsimp only)); done)) | (refine' T_read _ rfl rfl (by kernel_rfl) (Nat.le_of_ble_eq_true (by kernel_rfl)) (fun K_ hK_ => ?_) ?_; rotate_left 1; focus ((conv => (arg 4; arg 1; whnf)); (repeat (first | exact hK_ rfl | (go_big_may; (first | ((with_reducible refine g_load rfl ?_); first | refine ev_ld1 H rfl rfl rfl ?_ | refine ev_lda H rfl rfl rfl ?_))) | go_step | go_guarded | go_upon | dsimp only)); done)))); refine T_end ?_
  refine F_eff (ls' := #[true, true, true, true, true, false, false, false, false, false]) (pend' := [4]) 2 _ rfl (by kernel_rfl) (by kernel_rfl) (by kernel_rfl) (fun K_ hK_ => ?_); (conv => (arg 4; arg 1; whnf)); (repeat (first | refine hK_ _ _ rfl ?_ ?_ | (go_big_may; (first | (go_at_call 78; (with_reducible refine (impl_copyInts _ _ _ _ (hx.table.on H) hs.table).mono ?_); rintro e w1 ⟨qa_, rfl, kq⟩; have H_ := H.call kq; simp only [List.cons_append, List.nil_append] at H_; (clear H; have H := H_; clear H_); clear kq) | (go_at_call 78; (with_reducible refine (impl_copyInts _ _ _ _ (hx.dots.on H) hs.dots).mono ?_); rintro e w1 ⟨qb_, rfl, kq⟩; have H_ := H.call kq; simp only [List.cons_append, List.nil_append] at H_; (clear H; have H := H_; clear H_); clear kq))) | go_step | go_guarded | go_upon | dsimp only)); (focus (refine kept_cons 4 7 _ rfl rfl (Nat.le_of_ble_eq_true (by kernel_rfl)) (fun K_ hK_ => ?_) ?_; (focus ((conv => (arg 4; arg 1; whnf)); repeat (first | exact hK_ rfl | (go_big_may; (first | ((with_reducible refine g_load rfl ?_); first | refine ev_ld1 H rfl rfl rfl ?_ | refine ev_lda H rfl rfl rfl ?_))) | go_step | go_guarded | go_upon | dsimp only))); exact kept_nil))
  refine T_go [(0, 6, 9)] ?_; (repeat ((refine' T_pure _ rfl rfl (by kernel_rfl) (Nat.le_of_ble_eq_true (by kernel_rfl)) (fun w2_ K_ hK_ => ?_) ?_; rotate_left 1; focus ((conv => (arg 4; arg 1; whnf)); (repeat (first | exact hK_ rfl | go_step | go_guarded | go_upon | dsimp only)); done)))); refine T_end ?_
  refine F_eff (ls' := #[true, true, true, true, true, true, true, false, false, false]) (pend' := []) 5 _ rfl (by kernel_rfl) (by kernel_rfl) (by kernel_rfl) (fun K_ hK_ => ?_); (conv => (arg 4; arg 1; whnf)); (repeat (first | refine hK_ _ _ rfl ?_ ?_ | (go_big_may; (first | (go_at_call 78; (with_reducible refine (impl_copyInts _ _ _ _ (hx.table.on H) hs.table).mono ?_); rintro e w1 ⟨qa_, rfl, kq⟩; have H_ := H.call kq; simp only [List.cons_append, List.nil_append] at H_; (clear H; have H := H_; clear H_); clear kq) | (go_at_call 78; (with_reducible refine (impl_copyInts _ _ _ _ (hx.dots.on H) hs.dots).mono ?_); rintro e w1 ⟨qb_, rfl, kq⟩; have H_ := H.call kq; simp only [List.cons_append, List.nil_append] at H_; (clear H; have H := H_; clear H_); clear kq))) | go_step | go_guarded | go_upon | dsimp only)); (focus (exact kept_nil))
  refine F_eff (ls' := #[true, true, true, true, true, true, true, true, false, false]) (pend' := []) 7 _ rfl (by kernel_rfl) (by kernel_rfl) (by kernel_rfl) (fun K_ hK_ => ?_); (conv => (arg 4; arg 1; whnf)); (repeat (first | refine hK_ _ _ rfl ?_ ?_ | (go_big_may; (first | ((with_reducible refine g_store rfl ?_); (first | refine ev_sto (v := .int _ _) H rfl rfl rfl rfl rfl ?_ | refine ev_sto (v := .bool _) H rfl rfl rfl rfl rfl ?_ | refine ev_sto (v := .slice _ _ _) H rfl rfl rfl rfl rfl ?_ | refine ev_sto (v := .agg _) H rfl rfl rfl rfl rfl ?_); intro W_ H_; (clear H; have H := H_; clear H_)))) | go_step | go_guarded | go_upon | dsimp only)); (focus (exact kept_nil))
  refine T_go [(0, 8, 10)] ?_; (repeat ((refine' T_pure _ rfl rfl (by kernel_rfl) (Nat.le_of_ble_eq_true (by kernel_rfl)) (fun w2_ K_ hK_ => ?_) ?_; rotate_left 1; focus ((conv => (arg 4; arg 1; whnf)); (repeat (first | exact hK_ rfl | go_step | go_guarded | go_upon | dsimp only)); done)))); refine T_end ?_
  refine F_eff (ls' := #[true, true, true, true, true, true, true, true, true, true]) (pend' := []) 9 _ rfl (by kernel_rfl) (by kernel_rfl) (by kernel_rfl) (fun K_ hK_ => ?_); (conv => (arg 4; arg 1; whnf)); (repeat (first | refine hK_ _ _ rfl ?_ ?_ | (go_big_may; (first | ((with_reducible refine g_store rfl ?_); (first | refine ev_sto (v := .int _ _) H rfl rfl rfl rfl rfl ?_ | refine ev_sto (v := .bool _) H rfl rfl rfl rfl rfl ?_ | refine ev_sto (v := .slice _ _ _) H rfl rfl rfl rfl rfl ?_ | refine ev_sto (v := .agg _) H rfl rfl rfl rfl rfl ?_); intro W_ H_; (clear H; have H := H_; clear H_)))) | go_step | go_guarded | go_upon | dsimp only)); (focus (exact kept_nil))
  refine F_done (by kernel_rfl) ?_
  go_wp2_with (first | ((with_reducible refine g_box rfl ?_); (first | refine ev_box (v := .int _ _) H rfl rfl rfl rfl ?_ | refine ev_box (v := .bool _) H rfl rfl rfl rfl ?_ | refine ev_box (v := .slice _ _ _) H rfl rfl rfl rfl ?_ | refine ev_box (v := .agg _) H rfl rfl rfl rfl ?_); intro g_ W_ H_; (clear H; have H := H_; clear H_)) | ((with_reducible refine g_alloc rfl ?_); refine ev_new H rfl rfl ?_; intro g_ W_ H_; (clear H; have H := H_; clear H_)) | ((with_reducible refine g_load rfl ?_); first | refine ev_ld1 H rfl rfl rfl ?_ | refine ev_lda H rfl rfl rfl ?_) | ((with_reducible refine g_store rfl ?_); (first | refine ev_sto (v := .int _ _) H rfl rfl rfl rfl rfl ?_ | refine ev_sto (v := .bool _) H rfl rfl rfl rfl rfl ?_ | refine ev_sto (v := .slice _ _ _) H rfl rfl rfl rfl rfl ?_ | refine ev_sto (v := .agg _) H rfl rfl rfl rfl rfl ?_); intro W_ H_; (clear H; have H := H_; clear H_)) | (go_at_call 78; (with_reducible refine (impl_copyInts _ _ _ _ (hx.table.on H) hs.table).mono ?_); rintro e w1 ⟨qa_, rfl, kq⟩; have H_ := H.call kq; simp only [List.cons_append, List.nil_append] at H_; (clear H; have H := H_; clear H_); clear kq) | (go_at_call 78; (with_reducible refine (impl_copyInts _ _ _ _ (hx.dots.on H) hs.dots).mono ?_); rintro e w1 ⟨qb_, rfl, kq⟩; have H_ := H.call kq; simp only [List.cons_append, List.nil_append] at H_; (clear H; have H := H_; clear H_); clear kq))
  refine' back1 Tryz.results115 ?_ rfl ⟨⟨qa_, qb_⟩, ?_, (H.pack (l1 := [intsA qa_ x.table, intsA qb_ x.dots]) (by (repeat (first | (with_reducible exact Picks.nil) | (with_reducible exact Pick.here) | (with_reducible apply Pick.there) | (with_reducible apply Picks.cons))))).take (Picks.cons Pick.here Picks.nil)⟩; rotate_left 1; (focus first | (with_reducible exact rv_tmp rfl) | (refine' rv_agg H rfl ?_ ?_ ?_; rotate_left 4; (focus (repeat (first | (with_reducible exact Pick.here) | (with_reducible apply Pick.there)))); (focus exact aggT rfl); (focus rfl)) | (refine' rv_one H rfl ?_ ?_; rotate_left 3; (focus (repeat (first | (with_reducible exact Pick.here) | (with_reducible apply Pick.there)))); (focus exact oneT rfl)))
  rfl
set_option maxHeartbeats 2000000 in
theorem spec_l8Copy (x : PpuD) (q : PpuP) (w : World) (hx : PpuIn w x q) (hs : PpuSmall x) : Calls Tryz.prog 99 #[.agg #[.int .i64 x.t, .int .i64 x.ctrl, .int .i64 x.scroll, .int .i64 x.addr, .int .i64 x.pal, .bool x.blank, .slice q.table.A x.table.length q.table.c, .slice q.dots.A x.dots.length q.dots.c]] w fun e w' => ∃ q', e = .returned (.agg #[.int .i64 x.t, .int .i64 x.ctrl, .int .i64 x.scroll, .int .i64 x.addr, .int .i64 x.pal, .bool x.blank, .slice q'.table.A x.table.length q'.table.c, .slice q'.dots.A x.dots.length q'.dots.c]) ∧ St w [] w' [ppuA x q'] := by
  have H := St.nil w []
  have ht := hx.table
  have hd := hx.dots
  have hst := hs.table
  have hsd := hs.dots
  go_enter Tryz.func99, Tryz.ntmps99
  go_wp2_with (first | ((with_reducible refine g_box rfl ?_); (first | refine ev_box (v := .int _ _) H rfl rfl rfl rfl ?_ | refine ev_box (v := .bool _) H rfl rfl rfl rfl ?_ | refine ev_box (v := .slice _ _ _) H rfl rfl rfl rfl ?_ | refine ev_box (v := .agg _) H rfl rfl rfl rfl ?_); intro g_ W_ H_; (clear H; have H := H_; clear H_)) | ((with_reducible refine g_alloc rfl ?_); refine ev_new H rfl rfl ?_; intro g_ W_ H_; (clear H; have H := H_; clear H_)) | ((with_reducible refine g_load rfl ?_); first | refine ev_ld1 H rfl rfl rfl ?_ | refine ev_lda H rfl rfl rfl ?_) | ((with_reducible refine g_store rfl ?_); (first | refine ev_sto (v := .int _ _) H rfl rfl rfl rfl rfl ?_ | refine ev_sto (v := .bool _) H rfl rfl rfl rfl rfl ?_ | refine ev_sto (v := .slice _ _ _) H rfl rfl rfl rfl rfl ?_ | refine ev_sto (v := .agg _) H rfl rfl rfl rfl rfl ?_); intro W_ H_; (clear H; have H := H_; clear H_)) | ((with_reducible refine g_buildSlice rfl ?_); refine ev_buildSlice0 H rfl rfl Tryz.underlying25 info_int ?_; intro g_ W_ H_; (clear H; have H := H_; clear H_)) | ((with_reducible refine g_append rfl ?_); refine ev_appendN (N := x.table.length) (cs' := nums x.table) H rfl rfl Tryz.underlying25 info_int rfl (by decide) rfl rfl (by (repeat (first | (with_reducible exact Pick.here) | (with_reducible apply Pick.there)))) (ht.on H).in (ht.none) (by rw [nums_length]; omega) (nums_one' _) (by omega) (by unfold maxLen; omega) (Nat.zero_add _) (List.nil_append _) ?_; intro A_ c_ W_ H_; (clear H; have H := H_; clear H_)) | ((with_reducible refine g_append rfl ?_); refine ev_appendN (N := x.dots.length) (cs' := nums x.dots) H rfl rfl Tryz.underlying25 info_int rfl (by decide) rfl rfl (by (repeat (first | (with_reducible exact Pick.here) | (with_reducible apply Pick.there)))) (hd.on H).in (hd.none) (by rw [nums_length]; omega) (nums_one' _) (by omega) (by unfold maxLen; omega) (Nat.zero_add _) (List.nil_append _) ?_; intro A_ c_ W_ H_; (clear H; have H := H_; clear H_)))
  refine' back1 Tryz.results99 ?_ rfl ⟨⟨⟨_, _⟩, ⟨_, _⟩⟩, ?_, (H.pack (l1 := [intsA ⟨_, _⟩ x.table, intsA ⟨_, _⟩ x.dots]) (by (repeat (first | (with_reducible exact Picks.nil) | (with_reducible exact Pick.here) | (with_reducible apply Pick.there) | (with_reducible apply Picks.cons))))).take (Picks.cons Pick.here Picks.nil)⟩; rotate_left 1; (focus first | (with_reducible exact rv_tmp rfl) | (refine' rv_agg H rfl ?_ ?_ ?_; rotate_left 4; (focus (repeat (first | (with_reducible exact Pick.here) | (with_reducible apply Pick.there)))); (focus exact aggT rfl); (focus rfl)) | (refine' rv_one H rfl ?_ ?_; rotate_left 3; (focus (repeat (first | (with_reducible exact Pick.here) | (with_reducible apply Pick.there)))); (focus exact oneT rfl)))
  rfl
set_option maxHeartbeats 16000000 in
theorem spec_PpuOk (x : PpuD) (q : PpuP) (w : World) (hx : PpuIn w x q) : Calls Tryz.prog 104 #[.agg #[.int .i64 x.t, .int .i64 x.ctrl, .int .i64 x.scroll, .int .i64 x.addr, .int .i64 x.pal, .bool x.blank, .slice q.table.A x.table.length q.table.c, .slice q.dots.A x.dots.length q.dots.c]] w fun e w' => e = .returned (.bool x.ok) ∧ Below w.heap.size w w' := by
  have H := St.nil w []
  have ht := hx.table
  have hd := hx.dots
  have hm1 := ht.2.1
  have hm2 := hd.2.1
  obtain ⟨⟨A1, c1⟩, ⟨A2, c2⟩⟩ := q
  simp only at ht hd
  cases h0 : inB x.t 0 20000
  · go_enter Tryz.func104, Tryz.ntmps104
    go_wp2_with (first | ((with_reducible refine g_box rfl ?_); (first | refine ev_box (v := .int _ _) H rfl rfl rfl rfl ?_ | refine ev_box (v := .bool _) H rfl rfl rfl rfl ?_ | refine ev_box (v := .slice _ _ _) H rfl rfl rfl rfl ?_ | refine ev_box (v := .agg _) H rfl rfl rfl rfl ?_); intro g_ W_ H_; (clear H; have H := H_; clear H_)) | ((with_reducible refine g_alloc rfl ?_); refine ev_new H rfl rfl ?_; intro g_ W_ H_; (clear H; have H := H_; clear H_)) | ((with_reducible refine g_load rfl ?_); first | refine ev_ld1 H rfl rfl rfl ?_ | refine ev_lda H rfl rfl rfl ?_) | ((with_reducible refine g_store rfl ?_); (first | refine ev_sto (v := .int _ _) H rfl rfl rfl rfl rfl ?_ | refine ev_sto (v := .bool _) H rfl rfl rfl rfl rfl ?_ | refine ev_sto (v := .slice _ _ _) H rfl rfl rfl rfl rfl ?_ | refine ev_sto (v := .agg _) H rfl rfl rfl rfl rfl ?_); intro W_ H_; (clear H; have H := H_; clear H_)))
    (with_reducible refine g_draw ?_)
    try simp only [Act.put, List.setIfInBounds_toArray, List.set_cons_succ, List.set_cons_zero]
    refine F_begin (ls := #[false, false, false, false, false, false, false, false, false, false, false, false, false, false, false, false, false, false, false, false, false, false, false, false, false, false, false, false, false, false, false, false, false, false, false, false, false, false, false, false, false, false, false]) (by kernel_rfl) rfl (by kernel_rfl) ?_
    have H_ := H.drew
    (clear H; have H := H_; clear H_)
    refine T_go [(0, 0, 5), (1, 1, 6), (0, 2, 7), (0, 3, 8), (0, 4, 9)] ?_; (repeat (first | (refine' T_pure _ rfl rfl (by kernel_rfl) (Nat.le_of_ble_eq_true (by kernel_rfl)) (fun w2_ K_ hK_ => ?_) ?_; rotate_left 1; focus ((conv => (arg 4; arg 1; whnf)); (repeat (first | exact hK_ rfl | (go_big_may; (first | (go_at_call 107; (with_reducible refine (spec_l1In _ _ _ _).mono ?_); rintro e w1 ⟨rfl, rfl⟩) | ((with_reducible refine g_load rfl ?_); first | refine ev_ld1 H rfl rfl rfl ?_ | refine ev_lda H rfl rfl rfl ?_))) | go_step | go_guarded | go_upon | dsimp only)); done)) | (refine' T_read _ rfl rfl (by kernel_rfl) (Nat.le_of_ble_eq_true (by kernel_rfl)) (fun K_ hK_ => ?_) ?_; rotate_left 1; focus ((conv => (arg 4; arg 1; whnf)); (repeat (first | exact hK_ rfl | (go_big_may; (first | (go_at_call 107; (with_reducible refine (spec_l1In _ _ _ _).mono ?_); rintro e w1 ⟨rfl, rfl⟩) | ((with_reducible refine g_load rfl ?_); first | refine ev_ld1 H rfl rfl rfl ?_ | refine ev_lda H rfl rfl rfl ?_))) | go_step | go_guarded | go_upon | dsimp only)); done)))); refine T_end ?_
    refine T_go [(2, 5, 10), (2, 6, 11), (2, 7, 12), (2, 8, 13)] ?_; (repeat (refine T_skip _ rfl rfl (by kernel_rfl) (Nat.le_of_ble_eq_true (by kernel_rfl)) (by kernel_rfl) ?_)); refine T_end ?_
    simp only [Act.put, List.setIfInBounds_toArray, List.set_cons_succ, List.set_cons_zero]
    refine T_go [(0, 9, 14), (0, 10, 15)] ?_; (repeat ((refine' T_pure _ rfl rfl (by kernel_rfl) (Nat.le_of_ble_eq_true (by kernel_rfl)) (fun w2_ K_ hK_ => ?_) ?_; rotate_left 1; focus ((conv => (arg 4; arg 1; whnf)); (repeat (first | exact hK_ rfl | go_step | go_guarded | go_upon | dsimp only)); done)))); refine T_end ?_
    refine T_go [(2, 11, 16), (2, 12, 17), (2, 13, 18), (2, 14, 19)] ?_; (repeat (refine T_skip _ rfl rfl (by kernel_rfl) (Nat.le_of_ble_eq_true (by kernel_rfl)) (by kernel_rfl) ?_)); refine T_end ?_
    simp only [Act.put, List.setIfInBounds_toArray, List.set_cons_succ, List.set_cons_zero]
    refine T_go [(0, 15, 20), (0, 16, 21)] ?_; (repeat ((refine' T_pure _ rfl rfl (by kernel_rfl) (Nat.le_of_ble_eq_true (by kernel_rfl)) (fun w2_ K_ hK_ => ?_) ?_; rotate_left 1; focus ((conv => (arg 4; arg 1; whnf)); (repeat (first | exact hK_ rfl | go_step | go_guarded | go_upon | dsimp only)); done)))); refine T_end ?_
    refine T_go [(2, 17, 22), (2, 18, 23), (2, 19, 24), (2, 20, 25)] ?_; (repeat (refine T_skip _ rfl rfl (by kernel_rfl) (Nat.le_of_ble_eq_true (by kernel_rfl)) (by kernel_rfl) ?_)); refine T_end ?_
    simp only [Act.put, List.setIfInBounds_toArray, List.set_cons_succ, List.set_cons_zero]
    refine T_go [(0, 21, 26), (0, 22, 27)] ?_; (repeat ((refine' T_pure _ rfl rfl (by kernel_rfl) (Nat.le_of_ble_eq_true (by kernel_rfl)) (fun w2_ K_ hK_ => ?_) ?_; rotate_left 1; focus ((conv => (arg 4; arg 1; whnf)); (repeat (first | exact hK_ rfl | go_step | go_guarded | go_upon | dsimp only)); done)))); refine T_end ?_
    refine T_go [(2, 23, 28), (2, 24, 29), (2, 25, 30), (2, 26, 31)] ?_; (repeat (refine T_skip _ rfl rfl (by kernel_rfl) (Nat.le_of_ble_eq_true (by kernel_rfl)) (by kernel_rfl) ?_)); refine T_end ?_
    simp only [Act.put, List.setIfInBounds_toArray, List.set_cons_succ, List.set_cons_zero]
    refine T_go [(0, 27, 32), (0, 28, 33)] ?_; (repeat ((refine' T_pure _ rfl rfl (by kernel_rfl) (Nat.le_of_ble_eq_true (by kernel_rfl)) (fun w2_ K_ hK_ => ?_) ?_; rotate_left 1; focus ((conv => (arg 4; arg 1; whnf)); (repeat (first | exact hK_ rfl | go_step | go_guarded | go_upon | dsimp only)); done)))); refine T_end ?_
    refine T_go [(2, 29, 34), (2, 30, 35), (2, 31, 36), (2, 32, 37)] ?_; (repeat (refine T_skip _ rfl rfl (by kernel_rfl) (Nat.le_of_ble_eq_true (by kernel_rfl)) (by kernel_rfl) ?_)); refine T_end ?_
    simp only [Act.put, List.setIfInBounds_toArray, List.set_cons_succ, List.set_cons_zero]
    refine T_go [(0, 33, 38), (0, 34, 39)] ?_; (repeat ((refine' T_pure _ rfl rfl (by kernel_rfl) (Nat.le_of_ble_eq_true (by kernel_rfl)) (fun w2_ K_ hK_ => ?_) ?_; rotate_left 1; focus ((conv => (arg 4; arg 1; whnf)); (repeat (first | exact hK_ rfl | go_step | go_guarded | go_upon | dsimp only)); done)))); refine T_end ?_
    refine T_go [(2, 35, 40), (2, 36, 41), (2, 37, 42), (2, 38, 43), (2, 39, 44), (2, 40, 45), (2, 41, 46)] ?_; (repeat (refine T_skip _ rfl rfl (by kernel_rfl) (Nat.le_of_ble_eq_true (by kernel_rfl)) (by kernel_rfl) ?_)); refine T_end ?_
    simp only [Act.put, List.setIfInBounds_toArray, List.set_cons_succ, List.set_cons_zero]
    refine T_go [(0, 42, 47)] ?_; (repeat ((refine' T_pure _ rfl rfl (by kernel_rfl) (Nat.le_of_ble_eq_true (by kernel_rfl)) (fun w2_ K_ hK_ => ?_) ?_; rotate_left 1; focus ((conv => (arg 4; arg 1; whnf)); (repeat (first | exact hK_ rfl | go_step | go_guarded | go_upon | dsimp only)); done)))); refine T_end ?_
    refine F_done (by kernel_rfl) ?_
    go_wp2
    go_ret
    exact ⟨ret_b (by simp [PpuD.ok, h0]), H.below⟩
  · obtain ⟨b0, b1⟩ := inB_iff.1 h0
    go_enter Tryz.func104, Tryz.ntmps104
    go_wp2_with (first | ((with_reducible refine g_box rfl ?_); (first | refine ev_box (v := .int _ _) H rfl rfl rfl rfl ?_ | refine ev_box (v := .bool _) H rfl rfl rfl rfl ?_ | refine ev_box (v := .slice _ _ _) H rfl rfl rfl rfl ?_ | refine ev_box (v := .agg _) H rfl rfl rfl rfl ?_); intro g_ W_ H_; (clear H; have H := H_; clear H_)) | ((with_reducible refine g_alloc rfl ?_); refine ev_new H rfl rfl ?_; intro g_ W_ H_; (clear H; have H := H_; clear H_)) | ((with_reducible refine g_load rfl ?_); first | refine ev_ld1 H rfl rfl rfl ?_ | refine ev_lda H rfl rfl rfl ?_) | ((with_reducible refine g_store rfl ?_); (first | refine ev_sto (v := .int _ _) H rfl rfl rfl rfl rfl ?_ | refine ev_sto (v := .bool _) H rfl rfl rfl rfl rfl ?_ | refine ev_sto (v := .slice _ _ _) H rfl rfl rfl rfl rfl ?_ | refine ev_sto (v := .agg _) H rfl rfl rfl rfl rfl ?_); intro W_ H_; (clear H; have H := H_; clear H_)))
    (with_reducible refine g_draw ?_)
    try simp only [Act.put, List.setIfInBounds_toArray, List.set_cons_succ, List.set_cons_zero]
    refine F_begin (ls := #[false, false, false, false, false, false, false, false, false, false, false, false, false, false, false, false, false, false, false, false, false, false, false, false, false, false, false, false, false, false, false, false, false, false, false, false, false, false, false, false, false, false, false]) (by kernel_rfl) rfl (by kernel_rfl) ?_
    have H_ := H.drew
    (clear H; have H := H_; clear H_)
    refine T_go [(0, 0, 5), (1, 1, 6), (0, 2, 7), (0, 3, 8), (0, 4, 9), (0, 5, 10), (1, 6, 11), (0, 7, 12), (0, 8, 13), (0, 9, 14), (0, 10, 15)] ?_; (repeat (first | (refine' T_pure _ rfl rfl (by kernel_rfl) (Nat.le_of_ble_eq_true (by kernel_rfl)) (fun w2_ K_ hK_ => ?_) ?_; rotate_left 1; focus ((conv => (arg 4; arg 1; whnf)); (repeat (first | exact hK_ rfl | (go_big_may; (first | (go_at_call 107; (with_reducible refine (spec_l1In _ _ _ _).mono ?_); rintro e w1 ⟨rfl, rfl⟩) | (go_at_call 106; (with_reducible refine (spec_l5Byte _ _).mono ?_); rintro e w1 ⟨rfl, rfl⟩) | ((with_reducible refine g_load rfl ?_); first | refine ev_ld1 H rfl rfl rfl ?_ | refine ev_lda H rfl rfl rfl ?_))) | go_step | go_guarded | go_upon | dsimp only)); done)) | (refine' T_read _ rfl rfl (by kernel_rfl) (Nat.le_of_ble_eq_true (by kernel_rfl)) (fun K_ hK_ => ?_) ?_; rotate_left 1; focus ((conv => (arg 4; arg 1; whnf)); (repeat (first | exact hK_ rfl | (go_big_may; (first | (go_at_call 107; (with_reducible refine (spec_l1In _ _ _ _).mono ?_); rintro e w1 ⟨rfl, rfl⟩) | (go_at_call 106; (with_reducible refine (spec_l5Byte _ _).mono ?_); rintro e w1 ⟨rfl, rfl⟩) | ((with_reducible refine g_load rfl ?_); first | refine ev_ld1 H rfl rfl rfl ?_ | refine ev_lda H rfl rfl rfl ?_))) | go_step | go_guarded | go_upon | dsimp only)); done)))); refine T_end ?_
    refine F_case (d := 15) rfl (fun hg10_ => ?_) (fun hg10_ => ?_)
    focus
      (first | rw [hg10_] | skip); (try simp only [bne, Bool.not_eq_true', Bool.not_eq_false', decide_eq_true_eq, decide_eq_false_iff_not] at hg10_)
      refine T_go [(2, 11, 16), (2, 12, 17), (2, 13, 18), (2, 14, 19)] ?_; (repeat (refine T_skip _ rfl rfl (by kernel_rfl) (Nat.le_of_ble_eq_true (by kernel_rfl)) (by kernel_rfl) ?_)); refine T_end ?_
      simp only [Act.put, List.setIfInBounds_toArray, List.set_cons_succ, List.set_cons_zero]
      refine T_go [(0, 15, 20), (0, 16, 21)] ?_; (repeat ((refine' T_pure _ rfl rfl (by kernel_rfl) (Nat.le_of_ble_eq_true (by kernel_rfl)) (fun w2_ K_ hK_ => ?_) ?_; rotate_left 1; focus ((conv => (arg 4; arg 1; whnf)); (repeat (first | exact hK_ rfl | go_step | go_guarded | go_upon | dsimp only)); done)))); refine T_end ?_
      refine T_go [(2, 17, 22), (2, 18, 23), (2, 19, 24), (2, 20, 25)] ?_; (repeat (refine T_skip _ rfl rfl (by kernel_rfl) (Nat.le_of_ble_eq_true (by kernel_rfl)) (by kernel_rfl) ?_)); refine T_end ?_
      simp only [Act.put, List.setIfInBounds_toArray, List.set_cons_succ, List.set_cons_zero]
      refine T_go [(0, 21, 26), (0, 22, 27)] ?_; (repeat ((refine' T_pure _ rfl rfl (by kernel_rfl) (Nat.le_of_ble_eq_true (by kernel_rfl)) (fun w2_ K_ hK_ => ?_) ?_; rotate_left 1; focus ((conv => (arg 4; arg 1; whnf)); (repeat (first | exact hK_ rfl | go_step | go_guarded | go_upon | dsimp only)); done)))); refine T_end ?_
      refine T_go [(2, 23, 28), (2, 24, 29), (2, 25, 30), (2, 26, 31)] ?_; (repeat (refine T_skip _ rfl rfl (by kernel_rfl) (Nat.le_of_ble_eq_true (by kernel_rfl)) (by kernel_rfl) ?_)); refine T_end ?_
      simp only [Act.put, List.setIfInBounds_toArray, List.set_cons_succ, List.set_cons_zero]
      refine T_go [(0, 27, 32), (0, 28, 33)] ?_; (repeat ((refine' T_pure _ rfl rfl (by kernel_rfl) (Nat.le_of_ble_eq_true (by kernel_rfl)) (fun w2_ K_ hK_ => ?_) ?_; rotate_left 1; focus ((conv => (arg 4; arg 1; whnf)); (repeat (first | exact hK_ rfl | go_step | go_guarded | go_upon | dsimp only)); done)))); refine T_end ?_
      refine T_go [(2, 29, 34), (2, 30, 35), (2, 31, 36), (2, 32, 37)] ?_; (repeat (refine T_skip _ rfl rfl (by kernel_rfl) (Nat.le_of_ble_eq_true (by kernel_rfl)) (by kernel_rfl) ?_)); refine T_end ?_
      simp only [Act.put, List.setIfInBounds_toArray, List.set_cons_succ, List.set_cons_zero]
      refine T_go [(0, 33, 38), (0, 34, 39)] ?_; (repeat ((refine' T_pure _ rfl rfl (by kernel_rfl) (Nat.le_of_ble_eq_true (by kernel_rfl)) (fun w2_ K_ hK_ => ?_) ?_; rotate_left 1; focus ((conv => (arg 4; arg 1; whnf)); (repeat (first | exact hK_ rfl | go_step | go_guarded | go_upon | dsimp only)); done)))); refine T_end ?_
      refine T_go [(2, 35, 40), (2, 36, 41), (2, 37, 42), (2, 38, 43), (2, 39, 44), (2, 40, 45), (2, 41, 46)] ?_; (repeat (refine T_skip _ rfl rfl (by kernel_rfl) (Nat.le_of_ble_eq_true (by kernel_rfl)) (by kernel_rfl) ?_)); refine T_end ?_
      simp only [Act.put, List.setIfInBounds_toArray, List.set_cons_succ, List.set_cons_zero]
      refine T_go [(0, 42, 47)] ?_; (repeat ((refine' T_pure _ rfl rfl (by kernel_rfl) (Nat.le_of_ble_eq_true (by kernel_rfl)) (fun w2_ K_ hK_ => ?_) ?_; rotate_left 1; focus ((conv => (arg 4; arg 1; whnf)); (repeat (first | exact hK_ rfl | go_step | go_guarded | go_upon | dsimp only)); done)))); refine T_end ?_
      refine F_done (by kernel_rfl) ?_
    rotate_left 1
    focus
      (first | rw [hg10_] | skip); (try simp only [bne, Bool.not_eq_true', Bool.not_eq_false', decide_eq_true_eq, decide_eq_false_iff_not] at hg10_)
      refine T_go [(0, 11, 16), (1, 12, 17), (0, 13, 18), (0, 14, 19), (0, 15, 20), (0, 16, 21)] ?_; (repeat (first | (refine' T_pure _ rfl rfl (by kernel_rfl) (Nat.le_of_ble_eq_true (by kernel_rfl)) (fun w2_ K_ hK_ => ?_) ?_; rotate_left 1; focus ((conv => (arg 4; arg 1; whnf)); (repeat (first | exact hK_ rfl | (go_big_may; (first | (go_at_call 106; (with_reducible refine (spec_l5Byte _ _).mono ?_); rintro e w1 ⟨rfl, rfl⟩) | ((with_reducible refine g_load rfl ?_); first | refine ev_ld1 H rfl rfl rfl ?_ | refine ev_lda H rfl rfl rfl ?_))) | go_step | go_guarded | go_upon | dsimp only)); done)) | (refine' T_read _ rfl rfl (by kernel_rfl) (Nat.le_of_ble_eq_true (by kernel_rfl)) (fun K_ hK_ => ?_) ?_; rotate_left 1; focus ((conv => (arg 4; arg 1; whnf)); (repeat (first | exact hK_ rfl | (go_big_may; (first | (go_at_call 106; (with_reducible refine (spec_l5Byte _ _).mono ?_); rintro e w1 ⟨rfl, rfl⟩) | ((with_reducible refine g_load rfl ?_); first | refine ev_ld1 H rfl rfl rfl ?_ | refine ev_lda H rfl rfl rfl ?_))) | go_step | go_guarded | go_upon | dsimp only)); done)))); refine T_end ?_
      refine F_case (d := 21) rfl (fun hg16_ => ?_) (fun hg16_ => ?_)
      focus
        (first | rw [hg16_] | skip); (try simp only [bne, Bool.not_eq_true', Bool.not_eq_false', decide_eq_true_eq, decide_eq_false_iff_not] at hg16_)
        refine T_go [(2, 17, 22), (2, 18, 23), (2, 19, 24), (2, 20, 25)] ?_; (repeat (refine T_skip _ rfl rfl (by kernel_rfl) (Nat.le_of_ble_eq_true (by kernel_rfl)) (by kernel_rfl) ?_)); refine T_end ?_
        simp only [Act.put, List.setIfInBounds_toArray, List.set_cons_succ, List.set_cons_zero]
        refine T_go [(0, 21, 26), (0, 22, 27)] ?_; (repeat ((refine' T_pure _ rfl rfl (by kernel_rfl) (Nat.le_of_ble_eq_true (by kernel_rfl)) (fun w2_ K_ hK_ => ?_) ?_; rotate_left 1; focus ((conv => (arg 4; arg 1; whnf)); (repeat (first | exact hK_ rfl | go_step | go_guarded | go_upon | dsimp only)); done)))); refine T_end ?_
        refine T_go [(2, 23, 28), (2, 24, 29), (2, 25, 30), (2, 26, 31)] ?_; (repeat (refine T_skip _ rfl rfl (by kernel_rfl) (Nat.le_of_ble_eq_true (by kernel_rfl)) (by kernel_rfl) ?_)); refine T_end ?_
        simp only [Act.put, List.setIfInBounds_toArray, List.set_cons_succ, List.set_cons_zero]
        refine T_go [(0, 27, 32), (0, 28, 33)] ?_; (repeat ((refine' T_pure _ rfl rfl (by kernel_rfl) (Nat.le_of_ble_eq_true (by kernel_rfl)) (fun w2_ K_ hK_ => ?_) ?_; rotate_left 1; focus ((conv => (arg 4; arg 1; whnf)); (repeat (first | exact hK_ rfl | go_step | go_guarded | go_upon | dsimp only)); done)))); refine T_end ?_
        refine T_go [(2, 29, 34), (2, 30, 35), (2, 31, 36), (2, 32, 37)] ?_; (repeat (refine T_skip _ rfl rfl (by kernel_rfl) (Nat.le_of_ble_eq_true (by kernel_rfl)) (by kernel_rfl) ?_)); refine T_end ?_
        simp only [Act.put, List.setIfInBounds_toArray, List.set_cons_succ, List.set_cons_zero]
        refine T_go [(0, 33, 38), (0, 34, 39)] ?_; (repeat ((refine' T_pure _ rfl rfl (by kernel_rfl) (Nat.le_of_ble_eq_true (by kernel_rfl)) (fun w2_ K_ hK_ => ?_) ?_; rotate_left 1; focus ((conv => (arg 4; arg 1; whnf)); (repeat (first | exact hK_ rfl | go_step | go_guarded | go_upon | dsimp only)); done)))); refine T_end ?_
        refine T_go [(2, 35, 40), (2, 36, 41), (2, 37, 42), (2, 38, 43), (2, 39, 44), (2, 40, 45), (2, 41, 46)] ?_; (repeat (refine T_skip _ rfl rfl (by kernel_rfl) (Nat.le_of_ble_eq_true (by kernel_rfl)) (by kernel_rfl) ?_)); refine T_end ?_
        simp only [Act.put, List.setIfInBounds_toArray, List.set_cons_succ, List.set_cons_zero]
        refine T_go [(0, 42, 47)] ?_; (repeat ((refine' T_pure _ rfl rfl (by kernel_rfl) (Nat.le_of_ble_eq_true (by kernel_rfl)) (fun w2_ K_ hK_ => ?_) ?_; rotate_left 1; focus ((conv => (arg 4; arg 1; whnf)); (repeat (first | exact hK_ rfl | go_step | go_guarded | go_upon | dsimp only)); done)))); refine T_end ?_
        refine F_done (by kernel_rfl) ?_
      rotate_left 1
      focus
        (first | rw [hg16_] | skip); (try simp only [bne, Bool.not_eq_true', Bool.not_eq_false', decide_eq_true_eq, decide_eq_false_iff_not] at hg16_)
        refine T_go [(0, 17, 22), (1, 18, 23), (0, 19, 24), (0, 20, 25), (0, 21, 26), (0, 22, 27)] ?_; (repeat (first | (refine' T_pure _ rfl rfl (by kernel_rfl) (Nat.le_of_ble_eq_true (by kernel_rfl)) (fun w2_ K_ hK_ => ?_) ?_; rotate_left 1; focus ((conv => (arg 4; arg 1; whnf)); (repeat (first | exact hK_ rfl | (go_big_may; (first | (go_at_call 107; (with_reducible refine (spec_l1In _ _ _ _).mono ?_); rintro e w1 ⟨rfl, rfl⟩) | ((with_reducible refine g_load rfl ?_); first | refine ev_ld1 H rfl rfl rfl ?_ | refine ev_lda H rfl rfl rfl ?_))) | go_step | go_guarded | go_upon | dsimp only)); done)) | (refine' T_read _ rfl rfl (by kernel_rfl) (Nat.le_of_ble_eq_true (by kernel_rfl)) (fun K_ hK_ => ?_) ?_; rotate_left 1; focus ((conv => (arg 4; arg 1; whnf)); (repeat (first | exact hK_ rfl | (go_big_may; (first | (go_at_call 107; (with_reducible refine (spec_l1In _ _ _ _).mono ?_); rintro e w1 ⟨rfl, rfl⟩) | ((with_reducible refine g_load rfl ?_); first | refine ev_ld1 H rfl rfl rfl ?_ | refine ev_lda H rfl rfl rfl ?_))) | go_step | go_guarded | go_upon | dsimp only)); done)))); refine T_end ?_
        refine F_case (d := 27) rfl (fun hg22_ => ?_) (fun hg22_ => ?_)
        focus
          (first | rw [hg22_] | skip); (try simp only [bne, Bool.not_eq_true', Bool.not_eq_false', decide_eq_true_eq, decide_eq_false_iff_not] at hg22_)
          refine T_go [(2, 23, 28), (2, 24, 29), (2, 25, 30), (2, 26, 31)] ?_; (repeat (refine T_skip _ rfl rfl (by kernel_rfl) (Nat.le_of_ble_eq_true (by kernel_rfl)) (by kernel_rfl) ?_)); refine T_end ?_
          simp only [Act.put, List.setIfInBounds_toArray, List.set_cons_succ, List.set_cons_zero]
          refine T_go [(0, 27, 32), (0, 28, 33)] ?_; (repeat ((refine' T_pure _ rfl rfl (by kernel_rfl) (Nat.le_of_ble_eq_true (by kernel_rfl)) (fun w2_ K_ hK_ => ?_) ?_; rotate_left 1; focus ((conv => (arg 4; arg 1; whnf)); (repeat (first | exact hK_ rfl | go_step | go_guarded | go_upon | dsimp only)); done)))); refine T_end ?_
          refine T_go [(2, 29, 34), (2, 30, 35), (2, 31, 36), (2, 32, 37)] ?_; (repeat (refine T_skip _ rfl rfl (by kernel_rfl) (Nat.le_of_ble_eq_true (by kernel_rfl)) (by kernel_rfl) ?_)); refine T_end ?_
          simp only [Act.put, List.setIfInBounds_toArray, List.set_cons_succ, List.set_cons_zero]
          refine T_go [(0, 33, 38), (0, 34, 39)] ?_; (repeat ((refine' T_pure _ rfl rfl (by kernel_rfl) (Nat.le_of_ble_eq_true (by kernel_rfl)) (fun w2_ K_ hK_ => ?_) ?_; rotate_left 1; focus ((conv => (arg 4; arg 1; whnf)); (repeat (first | exact hK_ rfl | go_step | go_guarded | go_upon | dsimp only)); done)))); refine T_end ?_
          refine T_go [(2, 35, 40), (2, 36, 41), (2, 37, 42), (2, 38, 43), (2, 39, 44), (2, 40, 45), (2, 41, 46)] ?_; (repeat (refine T_skip _ rfl rfl (by kernel_rfl) (Nat.le_of_ble_eq_true (by kernel_rfl)) (by kernel_rfl) ?_)); refine T_end ?_
          simp only [Act.put, List.setIfInBounds_toArray, List.set_cons_succ, List.set_cons_zero]
          refine T_go [(0, 42, 47)] ?_; (repeat ((refine' T_pure _ rfl rfl (by kernel_rfl) (Nat.le_of_ble_eq_true (by kernel_rfl)) (fun w2_ K_ hK_ => ?_) ?_; rotate_left 1; focus ((conv => (arg 4; arg 1; whnf)); (repeat (first | exact hK_ rfl | go_step | go_guarded | go_upon | dsimp only)); done)))); refine T_end ?_
          refine F_done (by kernel_rfl) ?_
        rotate_left 1
        focus
          (first | rw [hg22_] | skip); (try simp only [bne, Bool.not_eq_true', Bool.not_eq_false', decide_eq_true_eq, decide_eq_false_iff_not] at hg22_)
          refine T_go [(0, 23, 28), (1, 24, 29), (0, 25, 30), (0, 26, 31), (0, 27, 32), (0, 28, 33)] ?_; (repeat (first | (refine' T_pure _ rfl rfl (by kernel_rfl) (Nat.le_of_ble_eq_true (by kernel_rfl)) (fun w2_ K_ hK_ => ?_) ?_; rotate_left 1; focus ((conv => (arg 4; arg 1; whnf)); (repeat (first | exact hK_ rfl | (go_big_may; (first | (go_at_call 107; (with_reducible refine (spec_l1In _ _ _ _).mono ?_); rintro e w1 ⟨rfl, rfl⟩) | ((with_reducible refine g_load rfl ?_); first | refine ev_ld1 H rfl rfl rfl ?_ | refine ev_lda H rfl rfl rfl ?_))) | go_step | go_guarded | go_upon | dsimp only)); done)) | (refine' T_read _ rfl rfl (by kernel_rfl) (Nat.le_of_ble_eq_true (by kernel_rfl)) (fun K_ hK_ => ?_) ?_; rotate_left 1; focus ((conv => (arg 4; arg 1; whnf)); (repeat (first | exact hK_ rfl | (go_big_may; (first | (go_at_call 107; (with_reducible refine (spec_l1In _ _ _ _).mono ?_); rintro e w1 ⟨rfl, rfl⟩) | ((with_reducible refine g_load rfl ?_); first | refine ev_ld1 H rfl rfl rfl ?_ | refine ev_lda H rfl rfl rfl ?_))) | go_step | go_guarded | go_upon | dsimp only)); done)))); refine T_end ?_
          refine F_case (d := 33) rfl (fun hg28_ => ?_) (fun hg28_ => ?_)
          focus
            (first | rw [hg28_] | skip); (try simp only [bne, Bool.not_eq_true', Bool.not_eq_false', decide_eq_true_eq, decide_eq_false_iff_not] at hg28_)
            refine T_go [(2, 29, 34), (2, 30, 35), (2, 31, 36), (2, 32, 37)] ?_; (repeat (refine T_skip _ rfl rfl (by kernel_rfl) (Nat.le_of_ble_eq_true (by kernel_rfl)) (by kernel_rfl) ?_)); refine T_end ?_
            simp only [Act.put, List.setIfInBounds_toArray, List.set_cons_succ, List.set_cons_zero]
            refine T_go [(0, 33, 38), (0, 34, 39)] ?_; (repeat ((refine' T_pure _ rfl rfl (by kernel_rfl) (Nat.le_of_ble_eq_true (by kernel_rfl)) (fun w2_ K_ hK_ => ?_) ?_; rotate_left 1; focus ((conv => (arg 4; arg 1; whnf)); (repeat (first | exact hK_ rfl | go_step | go_guarded | go_upon | dsimp only)); done)))); refine T_end ?_
            refine T_go [(2, 35, 40), (2, 36, 41), (2, 37, 42), (2, 38, 43), (2, 39, 44), (2, 40, 45), (2, 41, 46)] ?_; (repeat (refine T_skip _ rfl rfl (by kernel_rfl) (Nat.le_of_ble_eq_true (by kernel_rfl)) (by kernel_rfl) ?_)); refine T_end ?_
            simp only [Act.put, List.setIfInBounds_toArray, List.set_cons_succ, List.set_cons_zero]
            refine T_go [(0, 42, 47)] ?_; (repeat ((refine' T_pure _ rfl rfl (by kernel_rfl) (Nat.le_of_ble_eq_true (by kernel_rfl)) (fun w2_ K_ hK_ => ?_) ?_; rotate_left 1; focus ((conv => (arg 4; arg 1; whnf)); (repeat (first | exact hK_ rfl | go_step | go_guarded | go_upon | dsimp only)); done)))); refine T_end ?_
            refine F_done (by kernel_rfl) ?_
          rotate_left 1
          focus
            (first | rw [hg28_] | skip); (try simp only [bne, Bool.not_eq_true', Bool.not_eq_false', decide_eq_true_eq, decide_eq_false_iff_not] at hg28_)
            refine T_go [(0, 29, 34), (1, 30, 35), (0, 31, 36), (0, 32, 37), (0, 33, 38), (0, 34, 39)] ?_; (repeat (first | (refine' T_pure _ rfl rfl (by kernel_rfl) (Nat.le_of_ble_eq_true (by kernel_rfl)) (fun w2_ K_ hK_ => ?_) ?_; rotate_left 1; focus ((conv => (arg 4; arg 1; whnf)); (repeat (first | exact hK_ rfl | go_step | go_guarded | go_upon | dsimp only)); done)) | (refine' T_read _ rfl rfl (by kernel_rfl) (Nat.le_of_ble_eq_true (by kernel_rfl)) (fun K_ hK_ => ?_) ?_; rotate_left 1; focus ((conv => (arg 4; arg 1; whnf)); (repeat (first | exact hK_ rfl | (go_big_may; (first | ((with_reducible refine g_load rfl ?_); first | refine ev_ld1 H rfl rfl rfl ?_ | refine ev_lda H rfl rfl rfl ?_))) | go_step | go_guarded | go_upon | dsimp only)); done)))); refine T_end ?_
            refine F_case (d := 39) rfl (fun hg34_ => ?_) (fun hg34_ => ?_)
            focus
              (first | rw [hg34_] | skip); (try simp only [bne, Bool.not_eq_true', Bool.not_eq_false', decide_eq_true_eq, decide_eq_false_iff_not] at hg34_)
              refine T_go [(2, 35, 40), (2, 36, 41), (2, 37, 42), (2, 38, 43), (2, 39, 44), (2, 40, 45), (2, 41, 46)] ?_; (repeat (refine T_skip _ rfl rfl (by kernel_rfl) (Nat.le_of_ble_eq_true (by kernel_rfl)) (by kernel_rfl) ?_)); refine T_end ?_
              simp only [Act.put, List.setIfInBounds_toArray, List.set_cons_succ, List.set_cons_zero]
              refine T_go [(0, 42, 47)] ?_; (repeat ((refine' T_pure _ rfl rfl (by kernel_rfl) (Nat.le_of_ble_eq_true (by kernel_rfl)) (fun w2_ K_ hK_ => ?_) ?_; rotate_left 1; focus ((conv => (arg 4; arg 1; whnf)); (repeat (first | exact hK_ rfl | go_step | go_guarded | go_upon | dsimp only)); done)))); refine T_end ?_
              refine F_done (by kernel_rfl) ?_
            rotate_left 1
            focus
              (first | rw [hg34_] | skip); (try simp only [bne, Bool.not_eq_true', Bool.not_eq_false', decide_eq_true_eq, decide_eq_false_iff_not] at hg34_)
              refine T_go [(0, 35, 40), (1, 36, 41), (0, 37, 42), (0, 38, 43), (1, 39, 44), (0, 40, 45), (0, 41, 46)] ?_; (repeat (first | (refine' T_pure _ rfl rfl (by kernel_rfl) (Nat.le_of_ble_eq_true (by kernel_rfl)) (fun w2_ K_ hK_ => ?_) ?_; rotate_left 1; focus ((conv => (arg 4; arg 1; whnf)); (repeat (first | exact hK_ rfl | (go_big_may; (first | (go_at_call 178; (with_reducible refine (spec_l8Dots _ b0 _).mono ?_); rintro e w1 ⟨rfl, rfl⟩) | ((with_reducible refine g_load rfl ?_); first | refine ev_ld1 H rfl rfl rfl ?_ | refine ev_lda H rfl rfl rfl ?_))) | go_step | go_guarded | go_upon | dsimp only)); done)) | (refine' T_read _ rfl rfl (by kernel_rfl) (Nat.le_of_ble_eq_true (by kernel_rfl)) (fun K_ hK_ => ?_) ?_; rotate_left 1; focus ((conv => (arg 4; arg 1; whnf)); (repeat (first | exact hK_ rfl | (go_big_may; (first | (go_at_call 178; (with_reducible refine (spec_l8Dots _ b0 _).mono ?_); rintro e w1 ⟨rfl, rfl⟩) | ((with_reducible refine g_load rfl ?_); first | refine ev_ld1 H rfl rfl rfl ?_ | refine ev_lda H rfl rfl rfl ?_))) | go_step | go_guarded | go_upon | dsimp only)); done)))); refine T_end ?_
              refine F_case (d := 46) rfl (fun hg41_ => ?_) (fun hg41_ => ?_)
              focus
                (first | rw [hg41_] | skip); (try simp only [bne, Bool.not_eq_true', Bool.not_eq_false', decide_eq_true_eq, decide_eq_false_iff_not] at hg41_)
                refine T_go [(0, 42, 47)] ?_; (repeat ((refine' T_pure _ rfl rfl (by kernel_rfl) (Nat.le_of_ble_eq_true (by kernel_rfl)) (fun w2_ K_ hK_ => ?_) ?_; rotate_left 1; focus ((conv => (arg 4; arg 1; whnf)); (repeat (first | exact hK_ rfl | go_step | go_guarded | go_upon | dsimp only)); done)))); refine T_end ?_
                refine F_done (by kernel_rfl) ?_
              rotate_left 1
              focus
                (first | rw [hg41_] | skip); (try simp only [bne, Bool.not_eq_true', Bool.not_eq_false', decide_eq_true_eq, decide_eq_false_iff_not] at hg41_)
                refine T_go [(0, 42, 47)] ?_; (repeat ((refine' T_pure _ rfl rfl (by kernel_rfl) (Nat.le_of_ble_eq_true (by kernel_rfl)) (fun w2_ K_ hK_ => ?_) ?_; rotate_left 1; focus ((conv => (arg 4; arg 1; whnf)); (repeat (first | exact hK_ rfl | go_step | go_guarded | go_upon | dsimp only)); done)))); refine T_end ?_
                refine F_done (by kernel_rfl) ?_
    all_goals first | (go_wp2; go_ret; exact ⟨ret_b (by simp [PpuD.ok, *]), H.below⟩) | skip
    have h16 : x.table.length = 16 := by have := beq_iff_eq.1 hg34_; omega
    have HL := Lib.hid h16
    clear h16
    go_wp2
    go_loop [3] (fun i => ∃ k : Nat, k ≤ 16 ∧ i = .int .i64 k ∧ Hid (∀ j, j < k → inB (rd x.table j) 0 63 = true)) (fun i => 16 - (intOf i).toNat)
    case atStart => exact ⟨0, Nat.zero_le _, rfl, fun j hj => absurd hj (Nat.not_lt_zero _)⟩
    case round =>
      obtain ⟨k, hk, rfl, HA⟩ := hrel
      by_cases hlt : k < 16
      · have hlt2 : k < x.table.length := by have := HL.out; omega
        obtain ⟨ad, hA, hc⟩ := ht.cell H hlt2
        subst hA
        by_cases hb : inB (rd x.table k) 0 63 = true
        · go_wp2_with (first | ((with_reducible refine g_box rfl ?_); (first | refine ev_box (v := .int _ _) H rfl rfl rfl rfl ?_ | refine ev_box (v := .bool _) H rfl rfl rfl rfl ?_ | refine ev_box (v := .slice _ _ _) H rfl rfl rfl rfl ?_ | refine ev_box (v := .agg _) H rfl rfl rfl rfl ?_); intro g_ W_ H_; (clear H; have H := H_; clear H_)) | ((with_reducible refine g_alloc rfl ?_); refine ev_new H rfl rfl ?_; intro g_ W_ H_; (clear H; have H := H_; clear H_)) | ((with_reducible refine g_load rfl ?_); first | refine ev_ld1 H rfl rfl rfl ?_ | refine ev_lda H rfl rfl rfl ?_) | ((with_reducible refine g_store rfl ?_); (first | refine ev_sto (v := .int _ _) H rfl rfl rfl rfl rfl ?_ | refine ev_sto (v := .bool _) H rfl rfl rfl rfl rfl ?_ | refine ev_sto (v := .slice _ _ _) H rfl rfl rfl rfl rfl ?_ | refine ev_sto (v := .agg _) H rfl rfl rfl rfl rfl ?_); intro W_ H_; (clear H; have H := H_; clear H_)) | (go_at_call 107; (with_reducible refine (spec_l1In _ _ _ _).mono ?_); rintro e w1 ⟨rfl, rfl⟩))
          go_round
          case rel => exact ⟨k + 1, by omega, by go_num, fun j hj => if e : j = k then by rw [e]; exact hb else HA.out j (by omega)⟩
          case measure => simp [intOf]; omega
        · go_wp2_with (first | ((with_reducible refine g_box rfl ?_); (first | refine ev_box (v := .int _ _) H rfl rfl rfl rfl ?_ | refine ev_box (v := .bool _) H rfl rfl rfl rfl ?_ | refine ev_box (v := .slice _ _ _) H rfl rfl rfl rfl ?_ | refine ev_box (v := .agg _) H rfl rfl rfl rfl ?_); intro g_ W_ H_; (clear H; have H := H_; clear H_)) | ((with_reducible refine g_alloc rfl ?_); refine ev_new H rfl rfl ?_; intro g_ W_ H_; (clear H; have H := H_; clear H_)) | ((with_reducible refine g_load rfl ?_); first | refine ev_ld1 H rfl rfl rfl ?_ | refine ev_lda H rfl rfl rfl ?_) | ((with_reducible refine g_store rfl ?_); (first | refine ev_sto (v := .int _ _) H rfl rfl rfl rfl rfl ?_ | refine ev_sto (v := .bool _) H rfl rfl rfl rfl rfl ?_ | refine ev_sto (v := .slice _ _ _) H rfl rfl rfl rfl rfl ?_ | refine ev_sto (v := .agg _) H rfl rfl rfl rfl rfl ?_); intro W_ H_; (clear H; have H := H_; clear H_)) | (go_at_call 107; (with_reducible refine (spec_l1In _ _ _ _).mono ?_); rintro e w1 ⟨rfl, rfl⟩))
          go_ret
          have hz := allB_no hlt2 hb
          exact ⟨ret_b (by simp [PpuD.ok, hz]), H.below⟩
      · have hT : allB 0 63 x.table = true := allB_yes fun j hj => HA.out j (by have := HL.out; omega)
        clear HA
        go_wp2_with (first | ((with_reducible refine g_box rfl ?_); (first | refine ev_box (v := .int _ _) H rfl rfl rfl rfl ?_ | refine ev_box (v := .bool _) H rfl rfl rfl rfl ?_ | refine ev_box (v := .slice _ _ _) H rfl rfl rfl rfl ?_ | refine ev_box (v := .agg _) H rfl rfl rfl rfl ?_); intro g_ W_ H_; (clear H; have H := H_; clear H_)) | ((with_reducible refine g_alloc rfl ?_); refine ev_new H rfl rfl ?_; intro g_ W_ H_; (clear H; have H := H_; clear H_)) | ((with_reducible refine g_load rfl ?_); first | refine ev_ld1 H rfl rfl rfl ?_ | refine ev_lda H rfl rfl rfl ?_) | ((with_reducible refine g_store rfl ?_); (first | refine ev_sto (v := .int _ _) H rfl rfl rfl rfl rfl ?_ | refine ev_sto (v := .bool _) H rfl rfl rfl rfl rfl ?_ | refine ev_sto (v := .slice _ _ _) H rfl rfl rfl rfl rfl ?_ | refine ev_sto (v := .agg _) H rfl rfl rfl rfl rfl ?_); intro W_ H_; (clear H; have H := H_; clear H_)))
        go_loop [4] (fun i => ∃ k : Nat, k ≤ x.dots.length ∧ i = .int .i64 k ∧ Hid (∀ j, j < k → inB (rd x.dots j) 0 63 = true)) (fun i => x.dots.length - (intOf i).toNat)
        case atStart => exact ⟨0, Nat.zero_le _, rfl, fun j hj => absurd hj (Nat.not_lt_zero _)⟩
        case round =>
          obtain ⟨m, hm, rfl, HB⟩ := hrel
          by_cases hlm : m < x.dots.length
          · obtain ⟨ae, hE, hc⟩ := hd.cell H hlm
            subst hE
            by_cases hb : inB (rd x.dots m) 0 63 = true
            · go_wp2_with (first | ((with_reducible refine g_box rfl ?_); (first | refine ev_box (v := .int _ _) H rfl rfl rfl rfl ?_ | refine ev_box (v := .bool _) H rfl rfl rfl rfl ?_ | refine ev_box (v := .slice _ _ _) H rfl rfl rfl rfl ?_ | refine ev_box (v := .agg _) H rfl rfl rfl rfl ?_); intro g_ W_ H_; (clear H; have H := H_; clear H_)) | ((with_reducible refine g_alloc rfl ?_); refine ev_new H rfl rfl ?_; intro g_ W_ H_; (clear H; have H := H_; clear H_)) | ((with_reducible refine g_load rfl ?_); first | refine ev_ld1 H rfl rfl rfl ?_ | refine ev_lda H rfl rfl rfl ?_) | ((with_reducible refine g_store rfl ?_); (first | refine ev_sto (v := .int _ _) H rfl rfl rfl rfl rfl ?_ | refine ev_sto (v := .bool _) H rfl rfl rfl rfl rfl ?_ | refine ev_sto (v := .slice _ _ _) H rfl rfl rfl rfl rfl ?_ | refine ev_sto (v := .agg _) H rfl rfl rfl rfl rfl ?_); intro W_ H_; (clear H; have H := H_; clear H_)) | (go_at_call 107; (with_reducible refine (spec_l1In _ _ _ _).mono ?_); rintro e w1 ⟨rfl, rfl⟩))
              go_round
              case rel => exact ⟨m + 1, by omega, by go_num, fun j hj => if e : j = m then by rw [e]; exact hb else HB.out j (by omega)⟩
              case measure => simp [intOf]; omega
            · go_wp2_with (first | ((with_reducible refine g_box rfl ?_); (first | refine ev_box (v := .int _ _) H rfl rfl rfl rfl ?_ | refine ev_box (v := .bool _) H rfl rfl rfl rfl ?_ | refine ev_box (v := .slice _ _ _) H rfl rfl rfl rfl ?_ | refine ev_box (v := .agg _) H rfl rfl rfl rfl ?_); intro g_ W_ H_; (clear H; have H := H_; clear H_)) | ((with_reducible refine g_alloc rfl ?_); refine ev_new H rfl rfl ?_; intro g_ W_ H_; (clear H; have H := H_; clear H_)) | ((with_reducible refine g_load rfl ?_); first | refine ev_ld1 H rfl rfl rfl ?_ | refine ev_lda H rfl rfl rfl ?_) | ((with_reducible refine g_store rfl ?_); (first | refine ev_sto (v := .int _ _) H rfl rfl rfl rfl rfl ?_ | refine ev_sto (v := .bool _) H rfl rfl rfl rfl rfl ?_ | refine ev_sto (v := .slice _ _ _) H rfl rfl rfl rfl rfl ?_ | refine ev_sto (v := .agg _) H rfl rfl rfl rfl rfl ?_); intro W_ H_; (clear H; have H := H_; clear H_)) | (go_at_call 107; (with_reducible refine (spec_l1In _ _ _ _).mono ?_); rintro e w1 ⟨rfl, rfl⟩))
              go_ret
              have hz := allB_no hlm hb
              exact ⟨ret_b (by simp [PpuD.ok, hz]), H.below⟩
          · have hD : allB 0 63 x.dots = true := allB_yes fun j hj => HB.out j (by omega)
            clear HB
            go_wp2_with (first | ((with_reducible refine g_box rfl ?_); (first | refine ev_box (v := .int _ _) H rfl rfl rfl rfl ?_ | refine ev_box (v := .bool _) H rfl rfl rfl rfl ?_ | refine ev_box (v := .slice _ _ _) H rfl rfl rfl rfl ?_ | refine ev_box (v := .agg _) H rfl rfl rfl rfl ?_); intro g_ W_ H_; (clear H; have H := H_; clear H_)) | ((with_reducible refine g_alloc rfl ?_); refine ev_new H rfl rfl ?_; intro g_ W_ H_; (clear H; have H := H_; clear H_)) | ((with_reducible refine g_load rfl ?_); first | refine ev_ld1 H rfl rfl rfl ?_ | refine ev_lda H rfl rfl rfl ?_) | ((with_reducible refine g_store rfl ?_); (first | refine ev_sto (v := .int _ _) H rfl rfl rfl rfl rfl ?_ | refine ev_sto (v := .bool _) H rfl rfl rfl rfl rfl ?_ | refine ev_sto (v := .slice _ _ _) H rfl rfl rfl rfl rfl ?_ | refine ev_sto (v := .agg _) H rfl rfl rfl rfl rfl ?_); intro W_ H_; (clear H; have H := H_; clear H_)))
            go_ret
            exact ⟨ret_b (by simp [PpuD.ok, *]), H.below⟩
end Go.Proofs.YtjgggmcnbdjdjaaGreat.C
