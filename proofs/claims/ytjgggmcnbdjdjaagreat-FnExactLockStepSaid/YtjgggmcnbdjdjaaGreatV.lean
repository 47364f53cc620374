/- What the tests and copies of the picture unit tell. -/
import Derived.Test.YtjgggmcnbdjdjaaGreatC2
import Derived.BigGuardPart
import Derived.Test.YtjgggmcnbdjdjaaGreatE
namespace Go.Proofs.YtjgggmcnbdjdjaaGreat.C
open Go.RowKit Go.Proofs.YtjgggmcnbdjdjaaGreat.K Go.Proofs.YtjgggmcnbdjdjaaGreat.B
attribute [local go_sem] max2_int min2_int max_two min_two i64_and255 i64_and65535 i64_and1
set_option maxRecDepth 20000
set_option linter.unusedVariables false
set_option linter.unusedSimpArgs false
theorem impl_colorsOk (A : Option Addr) (c : Nat) (xs : List Int) (w : World) (hx : InI w A c xs) : Calls Tryz.prog 185 #[.slice A xs.length c] w fun e w' => e = .returned (.bool (allB 0 63 xs)) ∧ w = w' := by
  have hm := hx.2.1
  go_enter Tryz.func185, Tryz.ntmps185
  go_wp2
  go_loop [7] (fun i => ∃ k : Nat, k ≤ xs.length ∧ i = .int .i64 k ∧ Hid (∀ j, j < k → inB (rd xs j) 0 63 = true)) (fun i => xs.length - (intOf i).toNat)
  case atStart => exact ⟨0, Nat.zero_le _, rfl, fun j hj => absurd hj (Nat.not_lt_zero _)⟩
  case round =>
    obtain ⟨k, hk, rfl, HA⟩ := hrel
    by_cases hlt : k < xs.length
    · obtain ⟨ad, rfl, hc⟩ := hx.cell (St.nil w []) hlt
      clear hx
      by_cases hb : inB (rd xs k) 0 63 = true
      · go_wp2_with (go_at_call 123; (with_reducible refine (impl_within _ _ _ _).mono ?_); rintro e w1 ⟨rfl, rfl⟩)
        go_round
        case rel => exact ⟨k + 1, by omega, by go_num, fun j hj => if e : j = k then by rw [e]; exact hb else HA.out j (by omega)⟩
        case measure => simp [intOf]; omega
      · go_wp2_with (go_at_call 123; (with_reducible refine (impl_within _ _ _ _).mono ?_); rintro e w1 ⟨rfl, rfl⟩)
        go_ret
        exact ⟨ret_b (allB_no hlt hb).symm, rfl⟩
    · go_wp2
      go_ret
      exact ⟨ret_b (allB_yes fun j hj => HA.out j (by omega)).symm, rfl⟩
/-- How many dots there are at a time. -/
def dotsN (t : Int) : Int := if 48 < t % 64 then 0 else t % 64
def PpuD.ok (x : PpuD) : Bool := inB x.t 0 20000 && (inB x.ctrl 0 255 && (inB x.scroll 0 255 && (inB x.addr 0 15 && (inB x.pal 0 63 && ((x.table.length : Int) == 16 && (allB 0 63 x.table && ((x.dots.length : Int) == dotsN x.t && allB 0 63 x.dots)))))))
set_option maxHeartbeats 8000000 in
theorem impl_PpuOk (x : PpuD) (q : PpuP) (w : World) (hx : PpuIn w x q) : Calls Tryz.prog 120 #[.agg #[.int .i64 x.t, .int .i64 x.ctrl, .int .i64 x.scroll, .int .i64 x.addr, .int .i64 x.pal, .bool x.blank, .slice q.table.A x.table.length q.table.c, .slice q.dots.A x.dots.length q.dots.c]] w fun e w' => e = .returned (.bool x.ok) ∧ Below w.heap.size w w' := by
  have H := St.nil w []
  have ht := hx.table
  have hd := hx.dots
  have hm1 := ht.2.1
  have hm2 := hd.2.1
  cases h0 : inB x.t 0 20000
  · go_enter Tryz.func120, Tryz.ntmps120
    go_wp2_with (first | ((with_reducible refine g_box rfl ?_); refine eBa H ?_; clear H; intro g_ W_ H) | ((with_reducible refine g_load rfl ?_); refine eL1 H ?_) | (go_at_call 156; (with_reducible refine (impl_isTime _ _).mono ?_); rintro e w1 ⟨rfl, rfl⟩))
    go_ret
    exact ⟨ret_b (by simp [PpuD.ok, h0]), H.below⟩
  · obtain ⟨b0, b1⟩ := inB_iff.1 h0
    have hdn : dotsN x.t = if 48 < x.t % 64 then 0 else x.t % 64 := rfl
    have HD := Lib.hid hdn
    clear hdn
    cases hp : inB x.pal 0 63
    all_goals by_cases hk : 48 < x.t % 64
    all_goals
      go_enter Tryz.func120, Tryz.ntmps120
      go_wp2_with (first | ((with_reducible refine g_box rfl ?_); refine eBa H ?_; clear H; intro g_ W_ H) | ((with_reducible refine g_load rfl ?_); refine eL1 H ?_) | (go_at_call 156; (with_reducible refine (impl_isTime _ _).mono ?_); rintro e w1 ⟨rfl, rfl⟩) | (go_at_call 122; (with_reducible refine (impl_isByte _ _).mono ?_); rintro e w1 ⟨rfl, rfl⟩) | (go_at_call 123; (with_reducible refine (impl_within _ _ _ _).mono ?_); rintro e w1 ⟨rfl, rfl⟩) | (go_at_call 185; (with_reducible refine (impl_colorsOk _ _ _ _ (ht.on H)).mono ?_); rintro e w1 ⟨rfl, rfl⟩) | (go_at_call 185; (with_reducible refine (impl_colorsOk _ _ _ _ (hd.on H)).mono ?_); rintro e w1 ⟨rfl, rfl⟩))
      all_goals (go_ret; refine ⟨ret_b ?_, H.below⟩; clear H; have HD := HD.out; (first | rw [if_pos (by omega)] at HD | rw [if_neg (by omega)] at HD); (first | (simp [PpuD.ok, *]; done) | (simp [PpuD.ok, *]; intro hn_; simp_all)))
theorem spec_l8Dots (t : Int) (h0 : 0 ≤ t) (w : World) : Calls Tryz.prog 178 #[.int .i64 t] w fun e w' => e = .returned (.int .i64 (dotsN t)) ∧ w = w' := by
  have HD := Lib.hid (show dotsN t = if 48 < t % 64 then 0 else t % 64 from rfl)
  by_cases hk : 48 < t % 64
  all_goals
    go_enter Tryz.func178, Tryz.ntmps178
    go_wp2
    go_ret
    have HD := HD.out; (first | rw [if_pos (by omega)] at HD | rw [if_neg (by omega)] at HD)
    exact ⟨ret_i HD.symm, rfl⟩
theorem impl_copyInts (A : Option Addr) (c : Nat) (xs : List Int) (w : World) (hx : InI w A c xs) (hs : xs.length ≤ 1048576) : Calls Tryz.prog 78 #[.slice A xs.length c] w fun e w' => ∃ q : Sl, e = .returned (.slice q.A xs.length q.c) ∧ St w [] w' [intsA q xs] := by
  have H := St.nil w []
  go_enter Tryz.func78, Tryz.ntmps78
  go_wp2_with (first | ((with_reducible refine g_buildSlice rfl ?_); refine ev_buildSlice0 H rfl rfl Tryz.underlying25 info_int ?_; intro g_ W_ H_; (clear H; have H := H_; clear H_)) | ((with_reducible refine g_append rfl ?_); refine ev_appendN (N := xs.length) (cs' := nums xs) H rfl rfl Tryz.underlying25 info_int rfl (by decide) rfl rfl pkA (hx.on H).in (hx.none) (by rw [nums_length]; omega) (nums_one' _) (by omega) (by unfold maxLen; omega) (Nat.zero_add _) (List.nil_append _) ?_; intro A_ c_ W_ H_; (clear H; have H := H_; clear H_)))
  go_ret
  exact ⟨⟨A_, c_⟩, rfl, H⟩
set_option maxHeartbeats 2000000 in
theorem impl_copyPpu (x : PpuD) (q : PpuP) (w : World) (hx : PpuIn w x q) (hs : PpuSmall x) : Calls Tryz.prog 115 #[.agg #[.int .i64 x.t, .int .i64 x.ctrl, .int .i64 x.scroll, .int .i64 x.addr, .int .i64 x.pal, .bool x.blank, .slice q.table.A x.table.length q.table.c, .slice q.dots.A x.dots.length q.dots.c]] w fun e w' => ∃ q', e = .returned (.agg #[.int .i64 x.t, .int .i64 x.ctrl, .int .i64 x.scroll, .int .i64 x.addr, .int .i64 x.pal, .bool x.blank, .slice q'.table.A x.table.length q'.table.c, .slice q'.dots.A x.dots.length q'.dots.c]) ∧ St w [] w' [ppuA x q'] := by
  have H := St.nil w []
  go_enter Tryz.func115, Tryz.ntmps115
  go_wp2_with (first | ((with_reducible refine g_box rfl ?_); refine eBa H ?_; clear H; intro g_ W_ H) | ((with_reducible refine g_alloc rfl ?_); refine eNw H ?_; clear H; intro g_ W_ H) | ((with_reducible refine g_load rfl ?_); first | refine eL1 H ?_ | refine eLa H ?_) | ((with_reducible refine g_store rfl ?_); (first | refine eSs H ?_ | refine eSa H ?_); clear H; intro W_ H) | (go_at_call 78; (with_reducible refine (impl_copyInts _ _ _ _ (hx.table.on H) hs.table).mono ?_); rintro e w1 ⟨qa_, rfl, kq⟩; have H_ := H.call kq; simp only [List.cons_append, List.nil_append] at H_; (clear H; have H := H_; clear H_); clear kq) | (go_at_call 78; (with_reducible refine (impl_copyInts _ _ _ _ (hx.dots.on H) hs.dots).mono ?_); rintro e w1 ⟨qb_, rfl, kq⟩; have H_ := H.call kq; simp only [List.cons_append, List.nil_append] at H_; (clear H; have H := H_; clear H_); clear kq))
  (with_reducible refine g_draw ?_)
  try simp only [Act.put, List.setIfInBounds_toArray, List.set_cons_succ, List.set_cons_zero]
  refine F_begin (ls := #[false, false, false, false, false, false, false, false, false, false]) (by kernel_rfl) rfl (by kernel_rfl) ?_
  have H_ := H.drew
  (clear H; have H := H_; clear H_)
  refine T_go [(0, 0, 3), (1, 1, 4), (0, 3, 6), (1, 4, 7)] ?_; (repeat (first | refine T_pA ?_ | refine T_rA ?_)); refine T_end ?_
  refine F_eA (ls' := #[true, true, true, true, true, false, false, false, false, false]) (pend' := [4]) 2 ?_; intro K_ hK_; (conv => (arg 4; arg 1; whnf)); (repeat (first | refine hK_ _ _ rfl ?_ ?_ | (go_big_may; (first | (go_at_call 78; (with_reducible refine (impl_copyInts _ _ _ _ (hx.table.on H) hs.table).mono ?_); rintro e w1 ⟨qa_, rfl, kq⟩; have H_ := H.call kq; simp only [List.cons_append, List.nil_append] at H_; (clear H; have H := H_; clear H_); clear kq) | (go_at_call 78; (with_reducible refine (impl_copyInts _ _ _ _ (hx.dots.on H) hs.dots).mono ?_); rintro e w1 ⟨qb_, rfl, kq⟩; have H_ := H.call kq; simp only [List.cons_append, List.nil_append] at H_; (clear H; have H := H_; clear H_); clear kq))) | go_step | go_guarded | go_upon | dsimp only)); (focus (refine kept_cA 4 7 ?_; exact kept_nil))
  refine T_go [(0, 6, 9)] ?_; (repeat (refine T_pA ?_)); refine T_end ?_
  refine F_eA (ls' := #[true, true, true, true, true, true, true, false, false, false]) (pend' := []) 5 ?_; intro K_ hK_; (conv => (arg 4; arg 1; whnf)); (repeat (first | refine hK_ _ _ rfl ?_ ?_ | (go_big_may; (first | (go_at_call 78; (with_reducible refine (impl_copyInts _ _ _ _ (hx.table.on H) hs.table).mono ?_); rintro e w1 ⟨qa_, rfl, kq⟩; have H_ := H.call kq; simp only [List.cons_append, List.nil_append] at H_; (clear H; have H := H_; clear H_); clear kq) | (go_at_call 78; (with_reducible refine (impl_copyInts _ _ _ _ (hx.dots.on H) hs.dots).mono ?_); rintro e w1 ⟨qb_, rfl, kq⟩; have H_ := H.call kq; simp only [List.cons_append, List.nil_append] at H_; (clear H; have H := H_; clear H_); clear kq))) | go_step | go_guarded | go_upon | dsimp only)); exact kept_nil
  refine F_eA (ls' := #[true, true, true, true, true, true, true, true, false, false]) (pend' := []) 7 ?_; intro K_ hK_; (conv => (arg 4; arg 1; whnf)); (repeat (first | refine hK_ _ _ rfl ?_ ?_ | (go_big_may; ((with_reducible refine g_store rfl ?_); (first | refine eSs H ?_ | refine eSa H ?_); clear H; intro W_ H)) | go_step | go_guarded | go_upon | dsimp only)); exact kept_nil
  refine T_go [(0, 8, 10)] ?_; (repeat (refine T_pA ?_)); refine T_end ?_
  refine F_eA (ls' := #[true, true, true, true, true, true, true, true, true, true]) (pend' := []) 9 ?_; intro K_ hK_; (conv => (arg 4; arg 1; whnf)); (repeat (first | refine hK_ _ _ rfl ?_ ?_ | (go_big_may; ((with_reducible refine g_store rfl ?_); (first | refine eSs H ?_ | refine eSa H ?_); clear H; intro W_ H)) | go_step | go_guarded | go_upon | dsimp only)); exact kept_nil
  refine F_done (by kernel_rfl) ?_
  go_wp2_with (first | ((with_reducible refine g_box rfl ?_); refine eBa H ?_; clear H; intro g_ W_ H) | ((with_reducible refine g_alloc rfl ?_); refine eNw H ?_; clear H; intro g_ W_ H) | ((with_reducible refine g_load rfl ?_); first | refine eL1 H ?_ | refine eLa H ?_) | ((with_reducible refine g_store rfl ?_); (first | refine eSs H ?_ | refine eSa H ?_); clear H; intro W_ H) | (go_at_call 78; (with_reducible refine (impl_copyInts _ _ _ _ (hx.table.on H) hs.table).mono ?_); rintro e w1 ⟨qa_, rfl, kq⟩; have H_ := H.call kq; simp only [List.cons_append, List.nil_append] at H_; (clear H; have H := H_; clear H_); clear kq) | (go_at_call 78; (with_reducible refine (impl_copyInts _ _ _ _ (hx.dots.on H) hs.dots).mono ?_); rintro e w1 ⟨qb_, rfl, kq⟩; have H_ := H.call kq; simp only [List.cons_append, List.nil_append] at H_; (clear H; have H := H_; clear H_); clear kq))
  refine' back1 Tryz.results115 ?_ rfl ⟨⟨qa_, qb_⟩, ?_, (H.pack (l1 := [intsA qa_ x.table, intsA qb_ x.dots]) pksA).take (Picks.cons Pick.here Picks.nil)⟩; rotate_left 1; exact rvA
  rfl
set_option maxHeartbeats 2000000 in
theorem spec_l8Copy (x : PpuD) (q : PpuP) (w : World) (hx : PpuIn w x q) (hs : PpuSmall x) : Calls Tryz.prog 99 #[.agg #[.int .i64 x.t, .int .i64 x.ctrl, .int .i64 x.scroll, .int .i64 x.addr, .int .i64 x.pal, .bool x.blank, .slice q.table.A x.table.length q.table.c, .slice q.dots.A x.dots.length q.dots.c]] w fun e w' => ∃ q', e = .returned (.agg #[.int .i64 x.t, .int .i64 x.ctrl, .int .i64 x.scroll, .int .i64 x.addr, .int .i64 x.pal, .bool x.blank, .slice q'.table.A x.table.length q'.table.c, .slice q'.dots.A x.dots.length q'.dots.c]) ∧ St w [] w' [ppuA x q'] := by
  have H := St.nil w []
  have ht := hx.table
  have hd := hx.dots
  have hst := hs.table
  have hsd := hs.dots
  go_enter Tryz.func99, Tryz.ntmps99
  go_wp2_with (first | ((with_reducible refine g_box rfl ?_); refine eBa H ?_; clear H; intro g_ W_ H) | ((with_reducible refine g_alloc rfl ?_); refine eNw H ?_; clear H; intro g_ W_ H) | ((with_reducible refine g_load rfl ?_); first | refine eL1 H ?_ | refine eLa H ?_) | ((with_reducible refine g_store rfl ?_); (first | refine eSs H ?_ | refine eSa H ?_); clear H; intro W_ H) | ((with_reducible refine g_buildSlice rfl ?_); refine ev_buildSlice0 H rfl rfl Tryz.underlying25 info_int ?_; intro g_ W_ H_; (clear H; have H := H_; clear H_)) | ((with_reducible refine g_append rfl ?_); refine ev_appendN (N := x.table.length) (cs' := nums x.table) H rfl rfl Tryz.underlying25 info_int rfl (by decide) rfl rfl pkA (ht.on H).in (ht.none) (by rw [nums_length]; omega) (nums_one' _) (by omega) (by unfold maxLen; omega) (Nat.zero_add _) (List.nil_append _) ?_; intro A_ c_ W_ H_; (clear H; have H := H_; clear H_)) | ((with_reducible refine g_append rfl ?_); refine ev_appendN (N := x.dots.length) (cs' := nums x.dots) H rfl rfl Tryz.underlying25 info_int rfl (by decide) rfl rfl pkA (hd.on H).in (hd.none) (by rw [nums_length]; omega) (nums_one' _) (by omega) (by unfold maxLen; omega) (Nat.zero_add _) (List.nil_append _) ?_; intro A_ c_ W_ H_; (clear H; have H := H_; clear H_)))
  refine' back1 Tryz.results99 ?_ rfl ⟨⟨⟨_, _⟩, ⟨_, _⟩⟩, ?_, (H.pack (l1 := [intsA ⟨_, _⟩ x.table, intsA ⟨_, _⟩ x.dots]) pksA).take (Picks.cons Pick.here Picks.nil)⟩; rotate_left 1; exact rvA
  rfl
set_option maxHeartbeats 16000000 in
theorem spec_PpuOk (x : PpuD) (q : PpuP) (w : World) (hx : PpuIn w x q) : Calls Tryz.prog 104 #[.agg #[.int .i64 x.t, .int .i64 x.ctrl, .int .i64 x.scroll, .int .i64 x.addr, .int .i64 x.pal, .bool x.blank, .slice q.table.A x.table.length q.table.c, .slice q.dots.A x.dots.length q.dots.c]] w fun e w' => e = .returned (.bool x.ok) ∧ Below w.heap.size w w' := by
  have H := St.nil w []
  have ht := hx.table
  have hd := hx.dots
  have hm1 := ht.2.1
  have hm2 := hd.2.1
  obtain ⟨⟨A1, c1⟩, ⟨A2, c2⟩⟩ := q
  simp only at ht hd
  cases h0 : inB x.t 0 20000
  · go_enter Tryz.func104, Tryz.ntmps104
    go_wp2_with (first | ((with_reducible refine g_box rfl ?_); refine eBa H ?_; clear H; intro g_ W_ H) | ((with_reducible refine g_load rfl ?_); refine eL1 H ?_))
    (with_reducible refine g_draw ?_)
    try simp only [Act.put, List.setIfInBounds_toArray, List.set_cons_succ, List.set_cons_zero]
    refine F_begin (ls := #[false, false, false, false, false, false, false, false, false, false, false, false, false, false, false, false, false, false, false, false, false, false, false, false, false, false, false, false, false, false, false, false, false, false, false, false, false, false, false, false, false, false, false]) (by kernel_rfl) rfl (by kernel_rfl) ?_
    have H_ := H.drew
    (clear H; have H := H_; clear H_)
    refine T_go [(0, 0, 5), (1, 1, 6), (0, 2, 7), (0, 3, 8), (0, 4, 9)] ?_; (repeat (first | (refine' T_pure _ rfl rfl (by kernel_rfl) (Nat.le_of_ble_eq_true (by kernel_rfl)) (fun w2_ K_ hK_ => ?_) ?_; rotate_left 1; focus ((conv => (arg 4; arg 1; whnf)); (repeat (first | exact hK_ rfl | (go_big_may; (first | (go_at_call 107; (with_reducible refine (spec_l1In _ _ _ _).mono ?_); rintro e w1 ⟨rfl, rfl⟩) | ((with_reducible refine g_load rfl ?_); refine eL1 H ?_))) | go_step | go_guarded | go_upon | dsimp only)); done)) | (refine' T_read _ rfl rfl (by kernel_rfl) (Nat.le_of_ble_eq_true (by kernel_rfl)) (fun K_ hK_ => ?_) ?_; rotate_left 1; focus ((conv => (arg 4; arg 1; whnf)); (repeat (first | exact hK_ rfl | (go_big_may; (first | (go_at_call 107; (with_reducible refine (spec_l1In _ _ _ _).mono ?_); rintro e w1 ⟨rfl, rfl⟩) | ((with_reducible refine g_load rfl ?_); refine eL1 H ?_))) | go_step | go_guarded | go_upon | dsimp only)); done)))); refine T_end ?_
    refine T_go [(2, 5, 10), (2, 6, 11), (2, 7, 12), (2, 8, 13)] ?_; (repeat (refine T_sA ?_)); refine T_end ?_
    simp only [Act.put, List.setIfInBounds_toArray, List.set_cons_succ, List.set_cons_zero]
    refine T_go [(0, 9, 14), (0, 10, 15)] ?_; (repeat (refine T_pA ?_)); refine T_end ?_
    refine T_go [(2, 11, 16), (2, 12, 17), (2, 13, 18), (2, 14, 19)] ?_; (repeat (refine T_sA ?_)); refine T_end ?_
    simp only [Act.put, List.setIfInBounds_toArray, List.set_cons_succ, List.set_cons_zero]
    refine T_go [(0, 15, 20), (0, 16, 21)] ?_; (repeat (refine T_pA ?_)); refine T_end ?_
    refine T_go [(2, 17, 22), (2, 18, 23), (2, 19, 24), (2, 20, 25)] ?_; (repeat (refine T_sA ?_)); refine T_end ?_
    simp only [Act.put, List.setIfInBounds_toArray, List.set_cons_succ, List.set_cons_zero]
    refine T_go [(0, 21, 26), (0, 22, 27)] ?_; (repeat (refine T_pA ?_)); refine T_end ?_
    refine T_go [(2, 23, 28), (2, 24, 29), (2, 25, 30), (2, 26, 31)] ?_; (repeat (refine T_sA ?_)); refine T_end ?_
    simp only [Act.put, List.setIfInBounds_toArray, List.set_cons_succ, List.set_cons_zero]
    refine T_go [(0, 27, 32), (0, 28, 33)] ?_; (repeat (refine T_pA ?_)); refine T_end ?_
    refine T_go [(2, 29, 34), (2, 30, 35), (2, 31, 36), (2, 32, 37)] ?_; (repeat (refine T_sA ?_)); refine T_end ?_
    simp only [Act.put, List.setIfInBounds_toArray, List.set_cons_succ, List.set_cons_zero]
    refine T_go [(0, 33, 38), (0, 34, 39)] ?_; (repeat (refine T_pA ?_)); refine T_end ?_
    refine T_go [(2, 35, 40), (2, 36, 41), (2, 37, 42), (2, 38, 43), (2, 39, 44), (2, 40, 45), (2, 41, 46)] ?_; (repeat (refine T_sA ?_)); refine T_end ?_
    simp only [Act.put, List.setIfInBounds_toArray, List.set_cons_succ, List.set_cons_zero]
    refine T_go [(0, 42, 47)] ?_; (repeat (refine T_pA ?_)); refine T_end ?_
    refine F_done (by kernel_rfl) ?_
    go_wp2
    go_ret
    exact ⟨ret_b (by simp [PpuD.ok, h0]), H.below⟩
  · obtain ⟨b0, b1⟩ := inB_iff.1 h0
    go_enter Tryz.func104, Tryz.ntmps104
    go_wp2_with (first | ((with_reducible refine g_box rfl ?_); refine eBa H ?_; clear H; intro g_ W_ H) | ((with_reducible refine g_load rfl ?_); refine eL1 H ?_))
    (with_reducible refine g_draw ?_)
    try simp only [Act.put, List.setIfInBounds_toArray, List.set_cons_succ, List.set_cons_zero]
    refine F_begin (ls := #[false, false, false, false, false, false, false, false, false, false, false, false, false, false, false, false, false, false, false, false, false, false, false, false, false, false, false, false, false, false, false, false, false, false, false, false, false, false, false, false, false, false, false]) (by kernel_rfl) rfl (by kernel_rfl) ?_
    have H_ := H.drew
    (clear H; have H := H_; clear H_)
    refine T_go [(0, 0, 5), (1, 1, 6), (0, 2, 7), (0, 3, 8), (0, 4, 9), (0, 5, 10), (1, 6, 11), (0, 7, 12), (0, 8, 13), (0, 9, 14), (0, 10, 15)] ?_; (repeat (first | (refine' T_pure _ rfl rfl (by kernel_rfl) (Nat.le_of_ble_eq_true (by kernel_rfl)) (fun w2_ K_ hK_ => ?_) ?_; rotate_left 1; focus ((conv => (arg 4; arg 1; whnf)); (repeat (first | exact hK_ rfl | (go_big_may; (first | (go_at_call 107; (with_reducible refine (spec_l1In _ _ _ _).mono ?_); rintro e w1 ⟨rfl, rfl⟩) | (go_at_call 106; (with_reducible refine (spec_l5Byte _ _).mono ?_); rintro e w1 ⟨rfl, rfl⟩) | ((with_reducible refine g_load rfl ?_); refine eL1 H ?_))) | go_step | go_guarded | go_upon | dsimp only)); done)) | (refine' T_read _ rfl rfl (by kernel_rfl) (Nat.le_of_ble_eq_true (by kernel_rfl)) (fun K_ hK_ => ?_) ?_; rotate_left 1; focus ((conv => (arg 4; arg 1; whnf)); (repeat (first | exact hK_ rfl | (go_big_may; (first | (go_at_call 107; (with_reducible refine (spec_l1In _ _ _ _).mono ?_); rintro e w1 ⟨rfl, rfl⟩) | (go_at_call 106; (with_reducible refine (spec_l5Byte _ _).mono ?_); rintro e w1 ⟨rfl, rfl⟩) | ((with_reducible refine g_load rfl ?_); refine eL1 H ?_))) | go_step | go_guarded | go_upon | dsimp only)); done)))); refine T_end ?_
    refine F_case (d := 15) rfl (fun hg10_ => ?_) (fun hg10_ => ?_)
    focus
      (first | rw [hg10_] | skip); (try simp only [bne, Bool.not_eq_true', Bool.not_eq_false', decide_eq_true_eq, decide_eq_false_iff_not] at hg10_)
      refine T_go [(2, 11, 16), (2, 12, 17), (2, 13, 18), (2, 14, 19)] ?_; (repeat (refine T_sA ?_)); refine T_end ?_
      simp only [Act.put, List.setIfInBounds_toArray, List.set_cons_succ, List.set_cons_zero]
      refine T_go [(0, 15, 20), (0, 16, 21)] ?_; (repeat (refine T_pA ?_)); refine T_end ?_
      refine T_go [(2, 17, 22), (2, 18, 23), (2, 19, 24), (2, 20, 25)] ?_; (repeat (refine T_sA ?_)); refine T_end ?_
      simp only [Act.put, List.setIfInBounds_toArray, List.set_cons_succ, List.set_cons_zero]
      refine T_go [(0, 21, 26), (0, 22, 27)] ?_; (repeat (refine T_pA ?_)); refine T_end ?_
      refine T_go [(2, 23, 28), (2, 24, 29), (2, 25, 30), (2, 26, 31)] ?_; (repeat (refine T_sA ?_)); refine T_end ?_
      simp only [Act.put, List.setIfInBounds_toArray, List.set_cons_succ, List.set_cons_zero]
      refine T_go [(0, 27, 32), (0, 28, 33)] ?_; (repeat (refine T_pA ?_)); refine T_end ?_
      refine T_go [(2, 29, 34), (2, 30, 35), (2, 31, 36), (2, 32, 37)] ?_; (repeat (refine T_sA ?_)); refine T_end ?_
      simp only [Act.put, List.setIfInBounds_toArray, List.set_cons_succ, List.set_cons_zero]
      refine T_go [(0, 33, 38), (0, 34, 39)] ?_; (repeat (refine T_pA ?_)); refine T_end ?_
      refine T_go [(2, 35, 40), (2, 36, 41), (2, 37, 42), (2, 38, 43), (2, 39, 44), (2, 40, 45), (2, 41, 46)] ?_; (repeat (refine T_sA ?_)); refine T_end ?_
      simp only [Act.put, List.setIfInBounds_toArray, List.set_cons_succ, List.set_cons_zero]
      refine T_go [(0, 42, 47)] ?_; (repeat (refine T_pA ?_)); refine T_end ?_
      refine F_done (by kernel_rfl) ?_
    rotate_left 1
    focus
      (first | rw [hg10_] | skip); (try simp only [bne, Bool.not_eq_true', Bool.not_eq_false', decide_eq_true_eq, decide_eq_false_iff_not] at hg10_)
      refine T_go [(0, 11, 16), (1, 12, 17), (0, 13, 18), (0, 14, 19), (0, 15, 20), (0, 16, 21)] ?_; (repeat (first | (refine' T_pure _ rfl rfl (by kernel_rfl) (Nat.le_of_ble_eq_true (by kernel_rfl)) (fun w2_ K_ hK_ => ?_) ?_; rotate_left 1; focus ((conv => (arg 4; arg 1; whnf)); (repeat (first | exact hK_ rfl | (go_big_may; (first | (go_at_call 106; (with_reducible refine (spec_l5Byte _ _).mono ?_); rintro e w1 ⟨rfl, rfl⟩) | ((with_reducible refine g_load rfl ?_); refine eL1 H ?_))) | go_step | go_guarded | go_upon | dsimp only)); done)) | (refine' T_read _ rfl rfl (by kernel_rfl) (Nat.le_of_ble_eq_true (by kernel_rfl)) (fun K_ hK_ => ?_) ?_; rotate_left 1; focus ((conv => (arg 4; arg 1; whnf)); (repeat (first | exact hK_ rfl | (go_big_may; (first | (go_at_call 106; (with_reducible refine (spec_l5Byte _ _).mono ?_); rintro e w1 ⟨rfl, rfl⟩) | ((with_reducible refine g_load rfl ?_); refine eL1 H ?_))) | go_step | go_guarded | go_upon | dsimp only)); done)))); refine T_end ?_
      refine F_case (d := 21) rfl (fun hg16_ => ?_) (fun hg16_ => ?_)
      focus
        (first | rw [hg16_] | skip); (try simp only [bne, Bool.not_eq_true', Bool.not_eq_false', decide_eq_true_eq, decide_eq_false_iff_not] at hg16_)
        refine T_go [(2, 17, 22), (2, 18, 23), (2, 19, 24), (2, 20, 25)] ?_; (repeat (refine T_sA ?_)); refine T_end ?_
        simp only [Act.put, List.setIfInBounds_toArray, List.set_cons_succ, List.set_cons_zero]
        refine T_go [(0, 21, 26), (0, 22, 27)] ?_; (repeat (refine T_pA ?_)); refine T_end ?_
        refine T_go [(2, 23, 28), (2, 24, 29), (2, 25, 30), (2, 26, 31)] ?_; (repeat (refine T_sA ?_)); refine T_end ?_
        simp only [Act.put, List.setIfInBounds_toArray, List.set_cons_succ, List.set_cons_zero]
        refine T_go [(0, 27, 32), (0, 28, 33)] ?_; (repeat (refine T_pA ?_)); refine T_end ?_
        refine T_go [(2, 29, 34), (2, 30, 35), (2, 31, 36), (2, 32, 37)] ?_; (repeat (refine T_sA ?_)); refine T_end ?_
        simp only [Act.put, List.setIfInBounds_toArray, List.set_cons_succ, List.set_cons_zero]
        refine T_go [(0, 33, 38), (0, 34, 39)] ?_; (repeat (refine T_pA ?_)); refine T_end ?_
        refine T_go [(2, 35, 40), (2, 36, 41), (2, 37, 42), (2, 38, 43), (2, 39, 44), (2, 40, 45), (2, 41, 46)] ?_; (repeat (refine T_sA ?_)); refine T_end ?_
        simp only [Act.put, List.setIfInBounds_toArray, List.set_cons_succ, List.set_cons_zero]
        refine T_go [(0, 42, 47)] ?_; (repeat (refine T_pA ?_)); refine T_end ?_
        refine F_done (by kernel_rfl) ?_
      rotate_left 1
      focus
        (first | rw [hg16_] | skip); (try simp only [bne, Bool.not_eq_true', Bool.not_eq_false', decide_eq_true_eq, decide_eq_false_iff_not] at hg16_)
        refine T_go [(0, 17, 22), (1, 18, 23), (0, 19, 24), (0, 20, 25), (0, 21, 26), (0, 22, 27)] ?_; (repeat (first | (refine' T_pure _ rfl rfl (by kernel_rfl) (Nat.le_of_ble_eq_true (by kernel_rfl)) (fun w2_ K_ hK_ => ?_) ?_; rotate_left 1; focus ((conv => (arg 4; arg 1; whnf)); (repeat (first | exact hK_ rfl | (go_big_may; (first | (go_at_call 107; (with_reducible refine (spec_l1In _ _ _ _).mono ?_); rintro e w1 ⟨rfl, rfl⟩) | ((with_reducible refine g_load rfl ?_); refine eL1 H ?_))) | go_step | go_guarded | go_upon | dsimp only)); done)) | (refine' T_read _ rfl rfl (by kernel_rfl) (Nat.le_of_ble_eq_true (by kernel_rfl)) (fun K_ hK_ => ?_) ?_; rotate_left 1; focus ((conv => (arg 4; arg 1; whnf)); (repeat (first | exact hK_ rfl | (go_big_may; (first | (go_at_call 107; (with_reducible refine (spec_l1In _ _ _ _).mono ?_); rintro e w1 ⟨rfl, rfl⟩) | ((with_reducible refine g_load rfl ?_); refine eL1 H ?_))) | go_step | go_guarded | go_upon | dsimp only)); done)))); refine T_end ?_
        refine F_case (d := 27) rfl (fun hg22_ => ?_) (fun hg22_ => ?_)
        focus
          (first | rw [hg22_] | skip); (try simp only [bne, Bool.not_eq_true', Bool.not_eq_false', decide_eq_true_eq, decide_eq_false_iff_not] at hg22_)
          refine T_go [(2, 23, 28), (2, 24, 29), (2, 25, 30), (2, 26, 31)] ?_; (repeat (refine T_sA ?_)); refine T_end ?_
          simp only [Act.put, List.setIfInBounds_toArray, List.set_cons_succ, List.set_cons_zero]
          refine T_go [(0, 27, 32), (0, 28, 33)] ?_; (repeat (refine T_pA ?_)); refine T_end ?_
          refine T_go [(2, 29, 34), (2, 30, 35), (2, 31, 36), (2, 32, 37)] ?_; (repeat (refine T_sA ?_)); refine T_end ?_
          simp only [Act.put, List.setIfInBounds_toArray, List.set_cons_succ, List.set_cons_zero]
          refine T_go [(0, 33, 38), (0, 34, 39)] ?_; (repeat (refine T_pA ?_)); refine T_end ?_
          refine T_go [(2, 35, 40), (2, 36, 41), (2, 37, 42), (2, 38, 43), (2, 39, 44), (2, 40, 45), (2, 41, 46)] ?_; (repeat (refine T_sA ?_)); refine T_end ?_
          simp only [Act.put, List.setIfInBounds_toArray, List.set_cons_succ, List.set_cons_zero]
          refine T_go [(0, 42, 47)] ?_; (repeat (refine T_pA ?_)); refine T_end ?_
          refine F_done (by kernel_rfl) ?_
        rotate_left 1
        focus
          (first | rw [hg22_] | skip); (try simp only [bne, Bool.not_eq_true', Bool.not_eq_false', decide_eq_true_eq, decide_eq_false_iff_not] at hg22_)
          refine T_go [(0, 23, 28), (1, 24, 29), (0, 25, 30), (0, 26, 31), (0, 27, 32), (0, 28, 33)] ?_; (repeat (first | (refine' T_pure _ rfl rfl (by kernel_rfl) (Nat.le_of_ble_eq_true (by kernel_rfl)) (fun w2_ K_ hK_ => ?_) ?_; rotate_left 1; focus ((conv => (arg 4; arg 1; whnf)); (repeat (first | exact hK_ rfl | (go_big_may; (first | (go_at_call 107; (with_reducible refine (spec_l1In _ _ _ _).mono ?_); rintro e w1 ⟨rfl, rfl⟩) | ((with_reducible refine g_load rfl ?_); refine eL1 H ?_))) | go_step | go_guarded | go_upon | dsimp only)); done)) | (refine' T_read _ rfl rfl (by kernel_rfl) (Nat.le_of_ble_eq_true (by kernel_rfl)) (fun K_ hK_ => ?_) ?_; rotate_left 1; focus ((conv => (arg 4; arg 1; whnf)); (repeat (first | exact hK_ rfl | (go_big_may; (first | (go_at_call 107; (with_reducible refine (spec_l1In _ _ _ _).mono ?_); rintro e w1 ⟨rfl, rfl⟩) | ((with_reducible refine g_load rfl ?_); refine eL1 H ?_))) | go_step | go_guarded | go_upon | dsimp only)); done)))); refine T_end ?_
          refine F_case (d := 33) rfl (fun hg28_ => ?_) (fun hg28_ => ?_)
          focus
            (first | rw [hg28_] | skip); (try simp only [bne, Bool.not_eq_true', Bool.not_eq_false', decide_eq_true_eq, decide_eq_false_iff_not] at hg28_)
            refine T_go [(2, 29, 34), (2, 30, 35), (2, 31, 36), (2, 32, 37)] ?_; (repeat (refine T_sA ?_)); refine T_end ?_
            simp only [Act.put, List.setIfInBounds_toArray, List.set_cons_succ, List.set_cons_zero]
            refine T_go [(0, 33, 38), (0, 34, 39)] ?_; (repeat (refine T_pA ?_)); refine T_end ?_
            refine T_go [(2, 35, 40), (2, 36, 41), (2, 37, 42), (2, 38, 43), (2, 39, 44), (2, 40, 45), (2, 41, 46)] ?_; (repeat (refine T_sA ?_)); refine T_end ?_
            simp only [Act.put, List.setIfInBounds_toArray, List.set_cons_succ, List.set_cons_zero]
            refine T_go [(0, 42, 47)] ?_; (repeat (refine T_pA ?_)); refine T_end ?_
            refine F_done (by kernel_rfl) ?_
          rotate_left 1
          focus
            (first | rw [hg28_] | skip); (try simp only [bne, Bool.not_eq_true', Bool.not_eq_false', decide_eq_true_eq, decide_eq_false_iff_not] at hg28_)
            refine T_go [(0, 29, 34), (1, 30, 35), (0, 31, 36), (0, 32, 37), (0, 33, 38), (0, 34, 39)] ?_; (repeat (first | refine T_pA ?_ | refine T_rA ?_)); refine T_end ?_
            refine F_case (d := 39) rfl (fun hg34_ => ?_) (fun hg34_ => ?_)
            focus
              (first | rw [hg34_] | skip); (try simp only [bne, Bool.not_eq_true', Bool.not_eq_false', decide_eq_true_eq, decide_eq_false_iff_not] at hg34_)
              refine T_go [(2, 35, 40), (2, 36, 41), (2, 37, 42), (2, 38, 43), (2, 39, 44), (2, 40, 45), (2, 41, 46)] ?_; (repeat (refine T_sA ?_)); refine T_end ?_
              simp only [Act.put, List.setIfInBounds_toArray, List.set_cons_succ, List.set_cons_zero]
              refine T_go [(0, 42, 47)] ?_; (repeat (refine T_pA ?_)); refine T_end ?_
              refine F_done (by kernel_rfl) ?_
            rotate_left 1
            focus
              (first | rw [hg34_] | skip); (try simp only [bne, Bool.not_eq_true', Bool.not_eq_false', decide_eq_true_eq, decide_eq_false_iff_not] at hg34_)
              refine T_go [(0, 35, 40), (1, 36, 41), (0, 37, 42), (0, 38, 43), (1, 39, 44), (0, 40, 45), (0, 41, 46)] ?_; (repeat (first | (refine' T_pure _ rfl rfl (by kernel_rfl) (Nat.le_of_ble_eq_true (by kernel_rfl)) (fun w2_ K_ hK_ => ?_) ?_; rotate_left 1; focus ((conv => (arg 4; arg 1; whnf)); (repeat (first | exact hK_ rfl | (go_big_may; (first | (go_at_call 178; (with_reducible refine (spec_l8Dots _ b0 _).mono ?_); rintro e w1 ⟨rfl, rfl⟩) | ((with_reducible refine g_load rfl ?_); refine eL1 H ?_))) | go_step | go_guarded | go_upon | dsimp only)); done)) | (refine' T_read _ rfl rfl (by kernel_rfl) (Nat.le_of_ble_eq_true (by kernel_rfl)) (fun K_ hK_ => ?_) ?_; rotate_left 1; focus ((conv => (arg 4; arg 1; whnf)); (repeat (first | exact hK_ rfl | (go_big_may; (first | (go_at_call 178; (with_reducible refine (spec_l8Dots _ b0 _).mono ?_); rintro e w1 ⟨rfl, rfl⟩) | ((with_reducible refine g_load rfl ?_); refine eL1 H ?_))) | go_step | go_guarded | go_upon | dsimp only)); done)))); refine T_end ?_
              refine F_case (d := 46) rfl (fun hg41_ => ?_) (fun hg41_ => ?_)
              focus
                (first | rw [hg41_] | skip); (try simp only [bne, Bool.not_eq_true', Bool.not_eq_false', decide_eq_true_eq, decide_eq_false_iff_not] at hg41_)
                refine T_go [(0, 42, 47)] ?_; (repeat (refine T_pA ?_)); refine T_end ?_
                refine F_done (by kernel_rfl) ?_
              rotate_left 1
              focus
                (first | rw [hg41_] | skip); (try simp only [bne, Bool.not_eq_true', Bool.not_eq_false', decide_eq_true_eq, decide_eq_false_iff_not] at hg41_)
                refine T_go [(0, 42, 47)] ?_; (repeat (refine T_pA ?_)); refine T_end ?_
                refine F_done (by kernel_rfl) ?_
    all_goals first | (go_wp2; go_ret; exact ⟨ret_b (by simp [PpuD.ok, *]), H.below⟩) | skip
    have h16 : x.table.length = 16 := by have := beq_iff_eq.1 hg34_; omega
    have HL := Lib.hid h16
    clear h16
    go_wp2
    go_loop [3] (fun i => ∃ k : Nat, k ≤ 16 ∧ i = .int .i64 k ∧ Hid (∀ j, j < k → inB (rd x.table j) 0 63 = true)) (fun i => 16 - (intOf i).toNat)
    case atStart => exact ⟨0, Nat.zero_le _, rfl, fun j hj => absurd hj (Nat.not_lt_zero _)⟩
    case round =>
      obtain ⟨k, hk, rfl, HA⟩ := hrel
      by_cases hlt : k < 16
      · have hlt2 : k < x.table.length := by have := HL.out; omega
        obtain ⟨ad, hA, hc⟩ := ht.cell H hlt2
        subst hA
        by_cases hb : inB (rd x.table k) 0 63 = true
        · go_wp2_with (first | ((with_reducible refine g_box rfl ?_); refine eBa H ?_; clear H; intro g_ W_ H) | ((with_reducible refine g_load rfl ?_); refine eL1 H ?_) | (go_at_call 107; (with_reducible refine (spec_l1In _ _ _ _).mono ?_); rintro e w1 ⟨rfl, rfl⟩))
          go_round
          case rel => exact ⟨k + 1, by omega, by go_num, fun j hj => if e : j = k then by rw [e]; exact hb else HA.out j (by omega)⟩
          case measure => simp [intOf]; omega
        · go_wp2_with (first | ((with_reducible refine g_box rfl ?_); refine eBa H ?_; clear H; intro g_ W_ H) | ((with_reducible refine g_load rfl ?_); refine eL1 H ?_) | (go_at_call 107; (with_reducible refine (spec_l1In _ _ _ _).mono ?_); rintro e w1 ⟨rfl, rfl⟩))
          go_ret
          have hz := allB_no hlt2 hb
          exact ⟨ret_b (by simp [PpuD.ok, hz]), H.below⟩
      · have hT : allB 0 63 x.table = true := allB_yes fun j hj => HA.out j (by have := HL.out; omega)
        clear HA
        go_wp2_with (first | ((with_reducible refine g_box rfl ?_); refine eBa H ?_; clear H; intro g_ W_ H) | ((with_reducible refine g_load rfl ?_); refine eL1 H ?_))
        go_loop [4] (fun i => ∃ k : Nat, k ≤ x.dots.length ∧ i = .int .i64 k ∧ Hid (∀ j, j < k → inB (rd x.dots j) 0 63 = true)) (fun i => x.dots.length - (intOf i).toNat)
        case atStart => exact ⟨0, Nat.zero_le _, rfl, fun j hj => absurd hj (Nat.not_lt_zero _)⟩
        case round =>
          obtain ⟨m, hm, rfl, HB⟩ := hrel
          by_cases hlm : m < x.dots.length
          · obtain ⟨ae, hE, hc⟩ := hd.cell H hlm
            subst hE
            by_cases hb : inB (rd x.dots m) 0 63 = true
            · go_wp2_with (first | ((with_reducible refine g_box rfl ?_); refine eBa H ?_; clear H; intro g_ W_ H) | ((with_reducible refine g_load rfl ?_); refine eL1 H ?_) | (go_at_call 107; (with_reducible refine (spec_l1In _ _ _ _).mono ?_); rintro e w1 ⟨rfl, rfl⟩))
              go_round
              case rel => exact ⟨m + 1, by omega, by go_num, fun j hj => if e : j = m then by rw [e]; exact hb else HB.out j (by omega)⟩
              case measure => simp [intOf]; omega
            · go_wp2_with (first | ((with_reducible refine g_box rfl ?_); refine eBa H ?_; clear H; intro g_ W_ H) | ((with_reducible refine g_load rfl ?_); refine eL1 H ?_) | (go_at_call 107; (with_reducible refine (spec_l1In _ _ _ _).mono ?_); rintro e w1 ⟨rfl, rfl⟩))
              go_ret
              have hz := allB_no hlm hb
              exact ⟨ret_b (by simp [PpuD.ok, hz]), H.below⟩
          · have hD : allB 0 63 x.dots = true := allB_yes fun j hj => HB.out j (by omega)
            clear HB
            go_wp2_with (first | ((with_reducible refine g_box rfl ?_); refine eBa H ?_; clear H; intro g_ W_ H) | ((with_reducible refine g_load rfl ?_); refine eL1 H ?_))
            go_ret
            exact ⟨ret_b (by simp [PpuD.ok, *]), H.below⟩
end Go.Proofs.YtjgggmcnbdjdjaaGreat.C

/- What the tests of the units that come after tell. -/
namespace Go.Proofs.YtjgggmcnbdjdjaaGreat.C
open Go.RowKit Go.Proofs.YtjgggmcnbdjdjaaGreat.K Go.Proofs.YtjgggmcnbdjdjaaGreat.B
attribute [local go_sem] max2_int min2_int max_two min_two i64_and255 i64_and65535 i64_and1
set_option maxRecDepth 20000
set_option linter.unusedVariables false
set_option linter.unusedSimpArgs false
/-- No record is of a time ahead of t. -/
def RingD.from_ (x : RingD) (t : Int) : Bool := x.ok && ((x.list.length : Int) == 0 || decide (t ≤ (rdr x.list 0).t))
/-- There are as many pictures as are told ahead of a time, each whole. -/
def full (rs : List (List Int)) : Bool := rs.all fun r => r.length == 48
def framesB (rs : List (List Int)) (t : Int) : Bool := full rs && ((rs.length : Int) == (t + 15) / 64)
theorem full_no {rs : List (List Int)} {k : Nat} (hk : k < rs.length) (h : ¬ (rwAt rs k).length = 48) : full rs = false := by
  cases e : full rs with
  | false => rfl
  | true =>
    have := List.all_eq_true.1 e rs[k] (List.getElem_mem hk)
    rw [rwAt_at hk] at h
    simp at this
    exact absurd this h
theorem full_yes {rs : List (List Int)} (h : ∀ k, k < rs.length → (rwAt rs k).length = 48) : full rs = true := by
  refine List.all_eq_true.2 fun x hx => ?_
  obtain ⟨k, hk, rfl⟩ := List.getElem_of_mem hx
  have := h k hk
  rw [rwAt_at hk] at this
  simp [this]
theorem impl_samplesOk (A : Option Addr) (c : Nat) (xs : List Int) (t : Int) (w : World) (h0 : 0 ≤ t) (h1 : t ≤ 20000) : Calls Tryz.prog 125 #[.slice A xs.length c, .int .i64 t] w fun e w' => e = .returned (.bool ((xs.length : Int) == t / 16)) ∧ w = w' := by
  go_enter Tryz.func125, Tryz.ntmps125
  go_wp2_with (go_at_call 186; (with_reducible refine (impl_cyclesAhead _ _ _ _ h0 h1 (by decide) (by decide) (by decide)).mono ?_); rintro e w1 ⟨rfl, rfl⟩)
  go_ret
  exact ⟨ret_b (by rw [show t + 16 - 1 - 15 = t by omega]), rfl⟩
set_option maxHeartbeats 4000000 in
theorem impl_framesOk (q : Rw) (rs : List (List Int)) (t : Int) (w : World) (hx : InRR w q rs) (h0 : 0 ≤ t) (h1 : t ≤ 20000) : Calls Tryz.prog 124 #[.slice q.s.A rs.length q.s.c, .int .i64 t] w fun e w' => e = .returned (.bool (framesB rs t)) ∧ w = w' := by
  have hm := hx.mx
  obtain ⟨⟨A, c⟩, r⟩ := q
  go_enter Tryz.func124, Tryz.ntmps124
  go_wp2
  go_loop [9] (fun i => ∃ k : Nat, k ≤ rs.length ∧ i = .int .i64 k ∧ Hid (∀ j, j < k → (rwAt rs j).length = 48)) (fun i => rs.length - (intOf i).toNat)
  case atStart => exact ⟨0, Nat.zero_le _, rfl, Lib.hid fun j hj => absurd hj (Nat.not_lt_zero _)⟩
  case round =>
    obtain ⟨k, hk, rfl, HA⟩ := hrel
    by_cases hlt : k < rs.length
    · obtain ⟨ad, hA, hc⟩ := hx.cell (St.nil w []) hlt
      (try simp only at hA hc)
      subst hA
      clear hx
      by_cases hb : (rwAt rs k).length = 48
      · have hb1 : (((rwAt rs k).length : Int) != 48) = false := by rw [hb]; rfl
        have HB := Lib.hid hb
        clear hb
        go_wp2_with ((with_reducible refine g_load rfl ?_); refine ev_load_in_one rfl rfl rfl (oneT rfl) hc ?_)
        go_round
        case rel => exact ⟨k + 1, by omega, by go_num, Lib.hid fun j hj => if e : j = k then by rw [e]; exact HB.out else HA.out j (by omega)⟩
        case measure => simp [intOf]; omega
      · have hb1 : (((rwAt rs k).length : Int) != 48) = true := by rw [bne_iff_ne]; omega
        have hz : framesB rs t = false := by simp [framesB, full_no hlt hb]
        have HZ := Lib.hid hz
        clear hb hz
        go_wp2_with ((with_reducible refine g_load rfl ?_); refine ev_load_in_one rfl rfl rfl (oneT rfl) hc ?_)
        go_ret
        exact ⟨ret_b HZ.out.symm, rfl⟩
    · have hf : full rs = true := full_yes fun j hj => HA.out j (by omega)
      have hz : framesB rs t = ((rs.length : Int) == (t + 15) / 64) := by simp [framesB, hf]
      have HZ := Lib.hid hz
      clear hz hf
      go_wp2_with (go_at_call 186; (with_reducible refine (impl_cyclesAhead _ _ _ _ h0 h1 (by decide) (by decide) (by decide)).mono ?_); rintro e w1 ⟨rfl, rfl⟩)
      go_ret
      exact ⟨ret_b (by rw [HZ.out, show t + 64 - 1 - 48 = t + 15 by omega]), rfl⟩
theorem spec_l12Frames (t : Int) (w : World) (h0 : 0 ≤ t) (h1 : t ≤ 20000) : Calls Tryz.prog 179 #[.int .i64 t] w fun e w' => e = .returned (.int .i64 ((t + 15) / 64)) ∧ w = w' := by
  have e1 : 0 ≤ t + 64 - 48 - 1 := by omega
  go_enter Tryz.func179, Tryz.ntmps179
  go_wp2
  go_ret
  exact ⟨ret_i (by rw [show t + 64 - 48 - 1 = t + 15 by omega]), rfl⟩
set_option maxHeartbeats 4000000 in
theorem spec_l12FramesOk (q : Rw) (rs : List (List Int)) (t : Int) (w : World) (hx : InRR w q rs) (h0 : 0 ≤ t) (h1 : t ≤ 20000) : Calls Tryz.prog 108 #[.slice q.s.A rs.length q.s.c, .int .i64 t] w fun e w' => e = .returned (.bool (framesB rs t)) ∧ w = w' := by
  have hm := hx.mx
  obtain ⟨⟨A, c⟩, r⟩ := q
  go_enter Tryz.func108, Tryz.ntmps108
  go_wp2
  go_loop [5] (fun i => ∃ k : Nat, k ≤ rs.length ∧ i = .int .i64 k ∧ Hid (∀ j, j < k → (rwAt rs j).length = 48)) (fun i => rs.length - (intOf i).toNat)
  case atStart => exact ⟨0, Nat.zero_le _, rfl, Lib.hid fun j hj => absurd hj (Nat.not_lt_zero _)⟩
  case round =>
    obtain ⟨k, hk, rfl, HA⟩ := hrel
    by_cases hlt : k < rs.length
    · obtain ⟨ad, hA, hc⟩ := hx.cell (St.nil w []) hlt
      (try simp only at hA hc)
      subst hA
      clear hx
      by_cases hb : (rwAt rs k).length = 48
      · have hb1 : (((rwAt rs k).length : Int) != 48) = false := by rw [hb]; rfl
        have HB := Lib.hid hb
        clear hb
        go_wp2_with ((with_reducible refine g_load rfl ?_); refine ev_load_in_one rfl rfl rfl (oneT rfl) hc ?_)
        go_round
        case rel => exact ⟨k + 1, by omega, by go_num, Lib.hid fun j hj => if e : j = k then by rw [e]; exact HB.out else HA.out j (by omega)⟩
        case measure => simp [intOf]; omega
      · have hb1 : (((rwAt rs k).length : Int) != 48) = true := by rw [bne_iff_ne]; omega
        have hz : framesB rs t = false := by simp [framesB, full_no hlt hb]
        have HZ := Lib.hid hz
        clear hb hz
        go_wp2_with ((with_reducible refine g_load rfl ?_); refine ev_load_in_one rfl rfl rfl (oneT rfl) hc ?_)
        go_ret
        exact ⟨ret_b HZ.out.symm, rfl⟩
    · have hf : full rs = true := full_yes fun j hj => HA.out j (by omega)
      have hz : framesB rs t = ((rs.length : Int) == (t + 15) / 64) := by simp [framesB, hf]
      have HZ := Lib.hid hz
      clear hz hf
      go_wp2_with (go_at_call 179; (with_reducible refine (spec_l12Frames _ _ h0 h1).mono ?_); rintro e w1 ⟨rfl, rfl⟩)
      go_ret
      exact ⟨ret_b HZ.out.symm, rfl⟩
end Go.Proofs.YtjgggmcnbdjdjaaGreat.C

/- What the dots of the picture unit tell. -/
namespace Go.Proofs.YtjgggmcnbdjdjaaGreat.C
open Go.RowKit Go.Proofs.YtjgggmcnbdjdjaaGreat.K Go.Proofs.YtjgggmcnbdjdjaaGreat.B
attribute [local go_sem] max2_int min2_int max_two min_two i64_and255 i64_and65535 i64_and1
set_option maxRecDepth 20000
set_option linter.unusedVariables false
set_option linter.unusedSimpArgs false
/-- The place in the table of a dot. -/
def PpuD.place (x : PpuD) (at_ : Int) : Nat := ((at_ % 8 + x.scroll + at_ / 8) % 16).toNat
def PpuD.dot (x : PpuD) (at_ : Int) : Int := bits .xor .i64 (rd x.table (x.place at_)) x.pal
theorem PpuD.ok_at {x : PpuD} (h : x.ok = true) : (0 ≤ x.t ∧ x.t ≤ 20000) ∧ (0 ≤ x.ctrl ∧ x.ctrl ≤ 255) ∧ (0 ≤ x.scroll ∧ x.scroll ≤ 255) ∧ (0 ≤ x.addr ∧ x.addr ≤ 15) ∧ (0 ≤ x.pal ∧ x.pal ≤ 63) ∧ x.table.length = 16 ∧ allB 0 63 x.table = true ∧ (x.dots.length : Int) = dotsN x.t ∧ allB 0 63 x.dots = true := by
  simp only [PpuD.ok, Bool.and_eq_true, inB_iff, beq_iff_eq] at h
  obtain ⟨h1, h2, h3, h4, h5, h6, h7, h8, h9⟩ := h
  exact ⟨h1, h2, h3, h4, h5, by omega, h7, h8, h9⟩
set_option maxHeartbeats 4000000 in
theorem spec_l8Dot (x : PpuD) (q : PpuP) (at_ : Int) (w : World) (ht : InI w q.table.A q.table.c x.table) (hl : x.table.length = 16) (h1 : 0 ≤ x.scroll) (h2 : x.scroll ≤ 255) (h3 : 0 ≤ at_) (h4 : at_ ≤ 47) :
    Calls Tryz.prog 225 #[.agg #[.int .i64 x.t, .int .i64 x.ctrl, .int .i64 x.scroll, .int .i64 x.addr, .int .i64 x.pal, .bool x.blank, .slice q.table.A x.table.length q.table.c, .slice q.dots.A x.dots.length q.dots.c], .int .i64 at_] w fun e w' => e = .returned (.int .i64 (x.dot at_)) ∧ Below w.heap.size w w' := by
  have H := St.nil w []
  have e0 : 0 ≤ at_ % 8 + x.scroll + at_ / 8 := by omega
  have e1 : 0 ≤ (at_ % 8 + x.scroll + at_ / 8) % 16 := by omega
  have e2 : (at_ % 8 + x.scroll + at_ / 8) % 16 < 16 := by omega
  have e5 : (at_ % 8 + x.scroll + at_ / 8) % 16 < (x.table.length : Int) := by omega
  have hk : x.place at_ < x.table.length := by unfold PpuD.place; omega
  obtain ⟨⟨A1, c1⟩, ⟨A2, c2⟩⟩ := q
  simp only at ht
  have hle := ht.1
  obtain ⟨ad, hA, _⟩ := ht.cell H hk
  subst hA
  have hcell : ∀ {W : World} {l : List Ast}, St w [] W l → W.cell? (ad.add (x.place at_)) = some (.int .i64 (rd x.table (x.place at_))) := fun H' => by
    obtain ⟨ad', h1, h2⟩ := ht.cell H' hk
    injection h1 with h1; subst h1; exact h2
  have HL := Lib.hid hl
  clear hl hk
  unfold PpuD.dot
  unfold PpuD.place at hcell ⊢
  go_enter Tryz.func225, Tryz.ntmps225
  go_wp2_with (first | ((with_reducible refine g_box rfl ?_); refine eBa H ?_; clear H; intro g_ W_ H) | ((with_reducible refine g_load rfl ?_); refine eL1 H ?_) | ((with_reducible refine g_load rfl ?_); refine ev_load_in_one rfl rfl rfl (oneT rfl) (hcell H) ?_))
  (with_reducible refine g_draw ?_)
  try simp only [Act.put, List.setIfInBounds_toArray, List.set_cons_succ, List.set_cons_zero]
  refine F_begin (ls := #[false, false, false, false, false, false, false, false, false, false, false, false, false, false, false, false, false]) (by kernel_rfl) rfl (by kernel_rfl) ?_
  have H_ := H.drew
  (clear H; have H := H_; clear H_)
  refine T_go [(0, 0, 5), (1, 1, 6), (0, 2, 7), (0, 3, 8), (0, 4, 9), (1, 5, 10), (0, 6, 11), (0, 7, 12), (0, 8, 13), (0, 9, 14), (0, 10, 15), (0, 11, 16), (1, 12, 17), (0, 13, 18), (1, 14, 19), (0, 15, 20), (0, 16, 4)] ?_; (repeat (first | refine T_pA ?_ | (refine' T_read _ rfl rfl (by kernel_rfl) (Nat.le_of_ble_eq_true (by kernel_rfl)) (fun K_ hK_ => ?_) ?_; rotate_left 1; focus ((conv => (arg 4; arg 1; whnf)); (repeat (first | exact hK_ rfl | (go_big_may; (first | ((with_reducible refine g_load rfl ?_); refine ev_load_in_one rfl rfl rfl (oneT rfl) (hcell H) ?_) | ((with_reducible refine g_load rfl ?_); refine eL1 H ?_))) | go_step | go_guarded | go_upon | dsimp only)); done)))); refine T_end ?_
  refine F_done (by kernel_rfl) ?_
  go_wp2_with (first | ((with_reducible refine g_box rfl ?_); refine eBa H ?_; clear H; intro g_ W_ H) | ((with_reducible refine g_load rfl ?_); refine eL1 H ?_) | ((with_reducible refine g_load rfl ?_); refine ev_load_in_one rfl rfl rfl (oneT rfl) (hcell H) ?_))
  go_ret
  exact ⟨rfl, H.below⟩
end Go.Proofs.YtjgggmcnbdjdjaaGreat.C

/- What the tests of the two units that come after tell. -/
namespace Go.Proofs.YtjgggmcnbdjdjaaGreat.C
open Go.RowKit Go.Proofs.YtjgggmcnbdjdjaaGreat.K Go.Proofs.YtjgggmcnbdjdjaaGreat.B
attribute [local go_sem] max2_int min2_int max_two min_two i64_and255 i64_and65535 i64_and1
set_option maxRecDepth 20000
set_option linter.unusedVariables false
set_option linter.unusedSimpArgs false
def SoundD.ok (x : SoundD) : Bool := x.apu.ok && (x.ring.from_ x.apu.t && ((x.samples.length : Int) == x.apu.t / 16))
def PictureD.ok (x : PictureD) : Bool := x.ppu.ok && (x.ring.from_ x.ppu.t && (framesB x.frames x.ppu.t))
end Go.Proofs.YtjgggmcnbdjdjaaGreat.C

/- The time of a ring's last record. -/
namespace Go.Proofs.YtjgggmcnbdjdjaaGreat.C
open Go.RowKit Go.Proofs.YtjgggmcnbdjdjaaGreat.K Go.Proofs.YtjgggmcnbdjdjaaGreat.B
attribute [local go_sem] max2_int min2_int max_two min_two i64_and255 i64_and65535 i64_and1
set_option maxRecDepth 20000
set_option linter.unusedVariables false
set_option linter.unusedSimpArgs false
/-- The time of the last record; 0: there is none. -/
def RingD.last (x : RingD) : Int := if x.list.length = 0 then 0 else (rdr x.list (x.list.length - 1)).t
end Go.Proofs.YtjgggmcnbdjdjaaGreat.C

/- What a cycle of the sound unit tells. -/
namespace Go.Proofs.YtjgggmcnbdjdjaaGreat.B
open Go.RowKit Go.Proofs.YtjgggmcnbdjdjaaGreat.K
attribute [local go_sem] max2_int min2_int max_two min_two i64_and255 i64_and65535 i64_and1
set_option maxRecDepth 20000
set_option linter.unusedVariables false
set_option linter.unusedSimpArgs false
set_option maxRecDepth 100000 in
set_option maxHeartbeats 4000000 in
theorem spec_l10Tick (a : ApuD) (w : World) (hok : a.ok = true) : Calls Tryz.prog 196 #[.agg #[.int .i64 a.t, .int .i64 a.p, .int .i64 a.c, .int .i64 a.b, .int .i64 a.l, .bool a.k, .bool a.i]] w fun e w' => e = .returned (.tuple #[.agg #[.int .i64 a.tick.t, .int .i64 a.tick.p, .int .i64 a.tick.c, .int .i64 a.tick.b, .int .i64 a.tick.l, .bool a.tick.k, .bool a.tick.i], .int .i64 a.tickN, .bool a.tickB]) ∧ Below w.heap.size w w' := by
  have H := St.nil w []
  obtain ⟨b1, b2, b3, b4, b5, b6, b7, b8, b9, b10⟩ := a.ok_iff.1 hok
  have h0 : (Hid (a.t = 20000) ∧ (a.t == 20000) = true) ∨ (Hid (¬ a.t = 20000) ∧ (a.t == 20000) = false) := by
    by_cases h : a.t = 20000 <;> simp [h, Hid]
  rcases h0 with ⟨h1, h2⟩ | ⟨h1, h2⟩
  · go_enter Tryz.func196, Tryz.ntmps196
    go_wp2_with (first | ((with_reducible refine g_box rfl ?_); refine eBa H ?_; clear H; intro g_ W_ H) | ((with_reducible refine g_alloc rfl ?_); refine eNw H ?_; clear H; intro g_ W_ H) | ((with_reducible refine g_load rfl ?_); first | refine eL1 H ?_ | refine eLa H ?_) | ((with_reducible refine g_store rfl ?_); (first | refine eSi H ?_ | refine eSb H ?_ | refine eSa H ?_); clear H; intro W_ H))
    all_goals (refine' back3 Tryz.results196 ?_ ?_ ?_ rfl ⟨?_, H.below⟩; rotate_left 3; exact rvA; exact rvA; exact rvA; clear H; have h1' := Hid.out h1; simp [ApuD.tick, ApuD.tickN, ApuD.tickB, *])
  · have et : Hid (a.tick = a.tk) := by unfold Hid; simp [ApuD.tick, hok, h1.out]
    have en : Hid (a.tickN = a.smp) := by unfold Hid; simp [ApuD.tickN, hok, h1.out]
    have eb : Hid (a.tickB = a.told) := by unfold Hid; simp [ApuD.tickB, hok, h1.out]
    clear hok
    go_enter Tryz.func196, Tryz.ntmps196
    go_upto_if 13 with (first | ((with_reducible refine g_box rfl ?_); refine eBa H ?_; clear H; intro g_ W_ H) | ((with_reducible refine g_alloc rfl ?_); refine eNw H ?_; clear H; intro g_ W_ H) | ((with_reducible refine g_load rfl ?_); first | refine eL1 H ?_ | refine eLa H ?_) | ((with_reducible refine g_store rfl ?_); (first | refine eSi H ?_ | refine eSb H ?_ | refine eSa H ?_); clear H; intro W_ H))
    go_cut [0, 1, 2] (fun x p q wc => ∃ g1 g2 : Nat, p = .pointer (some ⟨g1, 0, none⟩) ∧ q = .pointer (some ⟨g2, 0, none⟩) ∧ St w [] wc [Ast.blk g1 [.int .i64 a.t, .int .i64 a.p, .int .i64 a.tk.c, .int .i64 a.tk.b, .int .i64 a.l, .bool a.k, .bool a.i] 45, Ast.blk g2 [.int .i64 0, .int .i64 0, .int .i64 0, .int .i64 0, .int .i64 0, .bool false, .bool false] 45])
    case first =>
      by_cases h3 : a.c = 0
      · cases h4 : a.loud
        · have h5 : decide (0 < a.l) = false := decide_eq_false (ApuD.loud_f h4)
          go_wp2_with (first | ((with_reducible refine g_box rfl ?_); refine eBa H ?_; clear H; intro g_ W_ H) | ((with_reducible refine g_alloc rfl ?_); refine eNw H ?_; clear H; intro g_ W_ H) | ((with_reducible refine g_load rfl ?_); first | refine eL1 H ?_ | refine eLa H ?_) | ((with_reducible refine g_store rfl ?_); (first | refine eSi H ?_ | refine eSb H ?_ | refine eSa H ?_); clear H; intro W_ H))
          all_goals (go_meet; case rel => exact ⟨_, _, rfl, rfl, H.cast (by simp [ApuD.tk, *])⟩)
        · have h5 : decide (0 < a.l) = true := decide_eq_true (ApuD.loud_t h4)
          go_wp2_with (first | ((with_reducible refine g_box rfl ?_); refine eBa H ?_; clear H; intro g_ W_ H) | ((with_reducible refine g_alloc rfl ?_); refine eNw H ?_; clear H; intro g_ W_ H) | ((with_reducible refine g_load rfl ?_); first | refine eL1 H ?_ | refine eLa H ?_) | ((with_reducible refine g_store rfl ?_); (first | refine eSi H ?_ | refine eSb H ?_ | refine eSa H ?_); clear H; intro W_ H))
          all_goals (go_meet; case rel => exact ⟨_, _, rfl, rfl, H.cast (by simp [ApuD.tk, *])⟩)
      · go_wp2_with (first | ((with_reducible refine g_box rfl ?_); refine eBa H ?_; clear H; intro g_ W_ H) | ((with_reducible refine g_alloc rfl ?_); refine eNw H ?_; clear H; intro g_ W_ H) | ((with_reducible refine g_load rfl ?_); first | refine eL1 H ?_ | refine eLa H ?_) | ((with_reducible refine g_store rfl ?_); (first | refine eSi H ?_ | refine eSb H ?_ | refine eSa H ?_); clear H; intro W_ H))
        all_goals (go_meet; case rel => exact ⟨_, _, rfl, rfl, H.cast (by simp [ApuD.tk, *])⟩)
    case rest =>
      clear H
      obtain ⟨g1, g2, rfl, rfl, H⟩ := hcut
      go_upto_region 8 with (fail)
      go_cut [36] (fun v wc => v = .bool a.beat ∧ St w [] wc [Ast.blk g1 [.int .i64 a.t, .int .i64 a.p, .int .i64 a.tk.c, .int .i64 a.tk.b, .int .i64 a.l, .bool a.k, .bool a.i] 45, Ast.blk g2 [.int .i64 0, .int .i64 0, .int .i64 0, .int .i64 0, .int .i64 0, .bool false, .bool false] 45])
      case first =>
        by_cases h3 : a.t % 32 = 0
        all_goals
          go_wp2_with (first | ((with_reducible refine g_box rfl ?_); refine eBa H ?_; clear H; intro g_ W_ H) | ((with_reducible refine g_alloc rfl ?_); refine eNw H ?_; clear H; intro g_ W_ H) | ((with_reducible refine g_load rfl ?_); first | refine eL1 H ?_ | refine eLa H ?_) | ((with_reducible refine g_store rfl ?_); (first | refine eSi H ?_ | refine eSb H ?_ | refine eSa H ?_); clear H; intro W_ H))
          all_goals (go_meet; case rel => exact ⟨by simp [ApuD.beat, h3], H⟩)
      case rest =>
        clear H
        obtain ⟨rfl, H⟩ := hcut
        go_upto_if 36 with (fail)
        go_cut [] (fun wc => St w [] wc [Ast.blk g1 [.int .i64 a.t, .int .i64 a.p, .int .i64 a.tk.c, .int .i64 a.tk.b, .int .i64 a.tk.l, .bool a.k, .bool a.tk.i] 45, Ast.blk g2 [.int .i64 0, .int .i64 0, .int .i64 0, .int .i64 0, .int .i64 0, .bool false, .bool false] 45])
        case first =>
          cases hb : a.beat
          · go_wp2_with (first | ((with_reducible refine g_box rfl ?_); refine eBa H ?_; clear H; intro g_ W_ H) | ((with_reducible refine g_alloc rfl ?_); refine eNw H ?_; clear H; intro g_ W_ H) | ((with_reducible refine g_load rfl ?_); first | refine eL1 H ?_ | refine eLa H ?_) | ((with_reducible refine g_store rfl ?_); (first | refine eSi H ?_ | refine eSb H ?_ | refine eSa H ?_); clear H; intro W_ H))
            all_goals (go_meet; case rel => exact H.cast (by simp [ApuD.tk, *]))
          · have h4 := (ApuD.beat_t hb).2
            cases hi : a.i
            · cases ho : a.out
              · have h5 : (a.l - 1 == 0) = false := by simpa using ApuD.out_f ho
                go_wp2_with (first | ((with_reducible refine g_box rfl ?_); refine eBa H ?_; clear H; intro g_ W_ H) | ((with_reducible refine g_alloc rfl ?_); refine eNw H ?_; clear H; intro g_ W_ H) | ((with_reducible refine g_load rfl ?_); first | refine eL1 H ?_ | refine eLa H ?_) | ((with_reducible refine g_store rfl ?_); (first | refine eSi H ?_ | refine eSb H ?_ | refine eSa H ?_); clear H; intro W_ H))
                all_goals (go_meet; case rel => exact H.cast (by simp [ApuD.tk, *]))
              · have h5 : (a.l - 1 == 0) = true := by simpa using ApuD.out_t ho
                go_wp2_with (first | ((with_reducible refine g_box rfl ?_); refine eBa H ?_; clear H; intro g_ W_ H) | ((with_reducible refine g_alloc rfl ?_); refine eNw H ?_; clear H; intro g_ W_ H) | ((with_reducible refine g_load rfl ?_); first | refine eL1 H ?_ | refine eLa H ?_) | ((with_reducible refine g_store rfl ?_); (first | refine eSi H ?_ | refine eSb H ?_ | refine eSa H ?_); clear H; intro W_ H))
                all_goals (go_meet; case rel => exact H.cast (by simp [ApuD.tk, *]))
            · go_wp2_with (first | ((with_reducible refine g_box rfl ?_); refine eBa H ?_; clear H; intro g_ W_ H) | ((with_reducible refine g_alloc rfl ?_); refine eNw H ?_; clear H; intro g_ W_ H) | ((with_reducible refine g_load rfl ?_); first | refine eL1 H ?_ | refine eLa H ?_) | ((with_reducible refine g_store rfl ?_); (first | refine eSi H ?_ | refine eSb H ?_ | refine eSa H ?_); clear H; intro W_ H))
              all_goals (go_meet; case rel => exact H.cast (by simp [ApuD.tk, *]))
        case rest =>
          clear H
          have H := hcut
          clear hcut
          have h6 : (Hid (a.t % 16 = 15) ∧ (a.t % 16 == 15) = true) ∨ (Hid (¬ a.t % 16 = 15) ∧ (a.t % 16 == 15) = false) := by by_cases h : a.t % 16 = 15 <;> simp [h, Hid]
          have h7 : 0 ≤ a.tk.b ∧ a.tk.b ≤ 1 := by simp only [ApuD.tk]; repeat' split <;> omega
          obtain ⟨h7, h8⟩ := h7
          have h9 : 0 ≤ a.tk.l := by simp only [ApuD.tk]; split <;> first | omega | (rename_i h; have := (ApuD.beat_t h).2; omega)
          have h10 : (Hid (¬ 0 < a.tk.l) ∧ decide (0 < a.tk.l) = false) ∨ (Hid (0 < a.tk.l) ∧ decide (0 < a.tk.l) = true) := by by_cases h : 0 < a.tk.l <;> simp [h, Hid] <;> omega
          rcases h6 with ⟨h11, h12⟩ | ⟨h11, h12⟩
          · rcases h10 with ⟨h13, h14⟩ | ⟨h13, h14⟩
            all_goals
              go_wp2_with (first | ((with_reducible refine g_box rfl ?_); refine eBa H ?_; clear H; intro g_ W_ H) | ((with_reducible refine g_alloc rfl ?_); refine eNw H ?_; clear H; intro g_ W_ H) | ((with_reducible refine g_load rfl ?_); first | refine eL1 H ?_ | refine eLa H ?_) | ((with_reducible refine g_store rfl ?_); (first | refine eSi H ?_ | refine eSb H ?_ | refine eSa H ?_); clear H; intro W_ H))
              all_goals (refine' back3 Tryz.results196 ?_ ?_ ?_ rfl ⟨?_, H.below⟩; rotate_left 3; exact rvA; exact rvA; exact rvA; rw [et.out, en.out, eb.out]; have q1 := h11.out; have q2 := h13.out; clear H; simp [ApuD.smp, ApuD.told, q1, q2, show a.tk.t = a.t + 1 from rfl, show a.tk.p = a.p from rfl, show a.tk.k = a.k from rfl]; (try (intro h; omega)))
          · go_wp2_with (first | ((with_reducible refine g_box rfl ?_); refine eBa H ?_; clear H; intro g_ W_ H) | ((with_reducible refine g_alloc rfl ?_); refine eNw H ?_; clear H; intro g_ W_ H) | ((with_reducible refine g_load rfl ?_); first | refine eL1 H ?_ | refine eLa H ?_) | ((with_reducible refine g_store rfl ?_); (first | refine eSi H ?_ | refine eSb H ?_ | refine eSa H ?_); clear H; intro W_ H))
            all_goals (refine' back3 Tryz.results196 ?_ ?_ ?_ rfl ⟨?_, H.below⟩; rotate_left 3; exact rvA; exact rvA; exact rvA; rw [et.out, en.out, eb.out]; have q1 := h11.out; clear H; simp [ApuD.smp, ApuD.told, q1, show a.tk.t = a.t + 1 from rfl, show a.tk.p = a.p from rfl, show a.tk.k = a.k from rfl])
end Go.Proofs.YtjgggmcnbdjdjaaGreat.B

/- What the functions over rings tell: made, put, looked at, taken. -/
namespace Go.Proofs.YtjgggmcnbdjdjaaGreat.C
open Go.RowKit Go.Proofs.YtjgggmcnbdjdjaaGreat.K Go.Proofs.YtjgggmcnbdjdjaaGreat.B
attribute [local go_sem] max2_int min2_int max_two min_two i64_and255 i64_and65535 i64_and1
set_option maxRecDepth 20000
set_option linter.unusedVariables false
set_option linter.unusedSimpArgs false
def RingD.zero : RingD := ⟨0, []⟩
def RingP.zero : RingP := ⟨Sl.nil⟩
def RingD.push (x : RingD) (r : RecD) : RingD := ⟨x.cap, x.list ++ [r]⟩
def RingD.put (x : RingD) (r : RecD) : RingD := if x.ok = true then (if (x.push r).ok = true then x.push r else x) else RingD.zero
def RecD.zero : RecD := ⟨0, 0, 0⟩
def RingD.has (x : RingD) : Bool := x.ok && decide (x.list.length ≠ 0)
def RingD.head (x : RingD) : RecD := if x.has = true then rdr x.list 0 else RecD.zero
def RingD.tail (x : RingD) : RingD := ⟨x.cap, x.list.drop 1⟩
def RingD.take (x : RingD) : RingD := if x.ok = true then x.tail else RingD.zero
theorem RingIn.zero (w : World) : RingIn w RingD.zero RingP.zero := ⟨InR.nil w⟩
theorem In.drop {w : World} {ad : Addr} {cs : List Value} (h : In w (some ad) cs) (k : Nat) : In w (some (ad.add k)) (cs.drop k) := fun j v hj => by
  rw [List.getElem?_drop] at hj
  obtain ⟨ad', h1, h2⟩ := h _ _ hj
  injection h1 with h1; subst h1
  exact ⟨_, rfl, by rw [Addr.add_add]; exact h2⟩
end Go.Proofs.YtjgggmcnbdjdjaaGreat.C

/- Rings, as data: what is left of one that is right is right. -/
namespace Go.Proofs.YtjgggmcnbdjdjaaGreat.C
open Go.RowKit Go.Proofs.YtjgggmcnbdjdjaaGreat.K Go.Proofs.YtjgggmcnbdjdjaaGreat.B
set_option maxRecDepth 20000
set_option linter.unusedVariables false
set_option linter.unusedSimpArgs false
theorem RingD.ok_at {x : RingD} (h : x.ok = true) : okAll x.list = true ∧ (1 ≤ x.cap ∧ x.cap ≤ 16) ∧ (x.list.length : Int) ≤ x.cap := by
  unfold RingD.ok at h
  rw [Bool.and_eq_true, Bool.and_eq_true, inB_iff, decide_eq_true_eq] at h
  exact h
theorem RingD.ok_mk {x : RingD} (h1 : okAll x.list = true) (h2 : 1 ≤ x.cap) (h3 : x.cap ≤ 16) (h4 : (x.list.length : Int) ≤ x.cap) : x.ok = true := by
  unfold RingD.ok
  rw [Bool.and_eq_true, Bool.and_eq_true, inB_iff, decide_eq_true_eq]
  exact ⟨h1, ⟨h2, h3⟩, h4⟩
end Go.Proofs.YtjgggmcnbdjdjaaGreat.C

/- What the picture unit does in a variable of its own: next, write, read, tick. (written by qgen.py) -/
namespace Go.Proofs.YtjgggmcnbdjdjaaGreat.C
open Go.RowKit Go.Proofs.YtjgggmcnbdjdjaaGreat.K Go.Proofs.YtjgggmcnbdjdjaaGreat.B
attribute [local go_sem] max2_int min2_int max_two min_two i64_and255 i64_and65535 i64_and1
set_option maxRecDepth 20000
set_option linter.unusedVariables false
set_option linter.unusedSimpArgs false
/-- A write to the table at Addr. -/
def PpuD.poke (x : PpuD) (v : Int) : PpuD := { x with table := x.table.set x.addr.toNat (v % 64), addr := (x.addr + 1) % 16 }
def PpuD.wr (x : PpuD) (r v : Int) : PpuD :=
  if r = 0 then { x with ctrl := v % 256 } else if r = 1 then { x with scroll := v % 256 } else if r = 3 then { x with addr := v % 256 % 16 }
  else if r = 4 then x.poke (v % 256) else if r = 5 then { x with pal := v % 256 % 64 } else x
def PpuD.rdv (x : PpuD) (r : Int) : Int := if r = 2 then 128 * (if x.blank = true then 1 else 0) else if r = 4 then rd x.table x.addr.toNat else 0
def PpuD.rdx (x : PpuD) (r : Int) : PpuD := if r = 2 then { x with blank := false } else if r = 4 then { x with addr := (x.addr + 1) % 16 } else x
def PpuD.tk (x : PpuD) : PpuD :=
  if x.t % 64 < 48 then { x with t := x.t + 1, dots := x.dots ++ [x.dot (x.t % 64)] }
  else if x.t % 64 = 48 then { x with t := x.t + 1, blank := true, dots := [] }
  else if x.t % 64 = 63 then { x with t := x.t + 1, blank := false } else { x with t := x.t + 1 }
def PpuD.told (x : PpuD) : Bool := x.t % 64 == 48
def PpuD.frame (x : PpuD) : List Int := if x.t % 64 = 48 then x.dots else []
def PpuD.asks (x : PpuD) : Bool := (x.t % 64 == 48) && decide (x.ctrl > 127)
theorem own_cell_int {g c : Nat} {xs : List Int} {w : World} (h : (intsA ⟨some ⟨g, 0, none⟩, c⟩ xs).p w) {j : Nat} (hj : j < xs.length) : w.cell? ⟨g, j, none⟩ = some (.int .i64 (rd xs j)) := by
  obtain ⟨g', h1, h2⟩ := ints_cell h hj
  injection h1 with h1; injection h1 with h1; subst h1
  exact h2
theorem nil_ok (w : World) : (intsA ⟨none, 0⟩ []).p w := ⟨rfl, .inl ⟨rfl, rfl⟩⟩
theorem St.addNil {w0 W : World} {S : List Nat} {l : List Ast} (h : St w0 S W l) : St w0 S W (intsA ⟨none, 0⟩ [] :: l) :=
  ⟨h.os, h.tape, h.output, h.size, h.block, fun a ha => by
    rcases List.mem_cons.1 ha with rfl | ha
    · exact nil_ok W
    · exact h.hp a ha, by have := h.nd; simpa [Ast.own] using this, fun a ha b hb => by
    rcases List.mem_cons.1 ha with rfl | ha
    · simp [Ast.own] at hb
    · exact h.own a ha b hb⟩
theorem fill_int (v : Int) : Instr.fill (fun i => some (i * 1, 1)) ((Array.range (1 * 1)).map ((Value.cells (.int .i64 0))[· % (Value.cells (.int .i64 0)).size]!)) [(0, .int .i64 v)] = some [Value.int .i64 v].toArray := by
  kernel_rfl
theorem own_set (A : Option Addr) (c : Nat) (xs : List Int) (i : Nat) (v : Int) : Ast.own 3 1 A xs.length c (nums (xs.set i v)) = intsA ⟨A, c⟩ (xs.set i v) := by
  unfold intsA
  simp
theorem own_some {T : TypeId} {sz : Nat} {A : Option Addr} {n c : Nat} {xs : List Value} {w : World} (h : (Ast.own T sz A n c xs).p w) (h0 : 0 < n) : ∃ g, A = some ⟨g, 0, none⟩ ∧ n ≤ c := by
  rcases own_form h with ⟨_, h1, _, _⟩ | ⟨g, cur, hA, _, h1, _⟩
  · omega
  · exact ⟨g, hA, h1⟩

end Go.Proofs.YtjgggmcnbdjdjaaGreat.C

/- What a step of the units that come after does, as data; and what is known of a ring that was taken from. -/
namespace Go.Proofs.YtjgggmcnbdjdjaaGreat.C
open Go.RowKit Go.Proofs.YtjgggmcnbdjdjaaGreat.K Go.Proofs.YtjgggmcnbdjdjaaGreat.B
set_option maxRecDepth 20000
set_option linter.unusedVariables false
set_option linter.unusedSimpArgs false
/-- Is the first of a time? -/
def RingD.is (x : RingD) (t : Int) : Bool := decide (0 < x.list.length ∧ (rdr x.list 0).t = t)
/-! ## the sound unit -/
theorem ApuD.write_ok {a : ApuD} (h : a.ok = true) (r v : Int) : (a.write r v).ok = true := by
  have h' := h
  rw [ApuD.ok_iff] at h
  obtain ⟨b1, b2, b3, b4, b5, b6, b7, b8, b9, b10⟩ := h
  unfold ApuD.write
  (repeat' split)
  all_goals first | exact h' | (rw [ApuD.ok_iff]; simp only; refine ⟨by omega, by omega, by omega, by omega, by omega, by omega, by omega, by omega, by omega, by omega⟩)
theorem ApuD.tk_ok {a : ApuD} (h : a.ok = true) (ht : a.t < 20000) : a.tk.ok = true := by
  rw [ApuD.ok_iff] at h
  obtain ⟨b1, b2, b3, b4, b5, b6, b7, b8, b9, b10⟩ := h
  have hb : a.beat = true → 0 < a.l := fun h => (ApuD.beat_t h).2
  rw [ApuD.ok_iff]
  unfold ApuD.tk
  simp only
  refine ⟨by omega, by omega, b3, b4, ?_, ?_, ?_, ?_, ?_, ?_⟩
  all_goals (repeat' split)
  all_goals first | omega | (have := hb (by assumption); omega)
def SoundD.is (x : SoundD) : Bool := x.ring.is x.apu.t
def SoundD.can (x : SoundD) (m : Int) : Bool := decide (x.apu.t < m ∧ x.apu.t < 20000)
def SoundD.more (x : SoundD) (m : Int) : Bool := x.is || x.can m
theorem SoundD.ok_at {x : SoundD} (h : x.ok = true) : x.apu.ok = true ∧ x.ring.from_ x.apu.t = true ∧ (x.samples.length : Int) = x.apu.t / 16 := by
  unfold SoundD.ok at h
  rw [Bool.and_eq_true, Bool.and_eq_true, beq_iff_eq] at h
  exact h
theorem SoundD.ok_mk {x : SoundD} (h1 : x.apu.ok = true) (h2 : x.ring.from_ x.apu.t = true) (h3 : (x.samples.length : Int) = x.apu.t / 16) : x.ok = true := by
  unfold SoundD.ok
  rw [Bool.and_eq_true, Bool.and_eq_true, beq_iff_eq]
  exact ⟨h1, h2, h3⟩
def SoundD.zero : SoundD := ⟨ApuD.zero, RingD.zero, []⟩
def SoundD.stepB (x : SoundD) (m : Int) : Bool := if x.ok = true then x.more m else false
end Go.Proofs.YtjgggmcnbdjdjaaGreat.C

