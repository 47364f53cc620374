/- What is drawn of picture units. -/
import Derived.Test.YtolfbmdgkbbnfaaDR3
import Derived.Test.YtolfbmdgkbbnfaaQ6
import Derived.Test.YtolfbmdgkbbnfaaQ4
namespace Go.Proofs.Ytolfbmdgkbbnfaa.C
open Go.RowKit Go.Proofs.Ytolfbmdgkbbnfaa.K Go.Proofs.Ytolfbmdgkbbnfaa.B
attribute [local go_sem] max2_int min2_int max_two min_two i64_and255 i64_and65535 i64_and1
set_option maxRecDepth 20000
set_option linter.unusedVariables false
set_option linter.unusedSimpArgs false
theorem InI.ofRow {w : World} {A : Option Addr} {c : Nat} {xs : List Int} (h : (rowI A (nums xs)).p w) (h1 : xs.length ≤ c) (h2 : xs.length ≤ 9223372036854775807) : InI w A c xs := by
  refine ⟨h1, h2, fun h0 => ?_⟩
  have h3 := row_in h
  obtain ⟨ad, hA, _⟩ := h3 0 _ (nums_at h0)
  refine ⟨ad, hA, fun j hj => ?_⟩
  obtain ⟨ad', hA', hc⟩ := h3 j _ (nums_at hj)
  rw [hA] at hA'; injection hA' with hA'; subst hA'
  exact hc
/-- A picture unit whose rows may lie within blocks. -/
def ppuO (x : PpuD) (q : PpuP) : Ast := Ast.all [Ast.pure (x.table.length ≤ q.table.c ∧ x.dots.length ≤ q.dots.c ∧ x.table.length ≤ 1000 ∧ x.dots.length ≤ 1000), rowI q.table.A (nums x.table), rowI q.dots.A (nums x.dots)]
theorem ppuO_pure {w : World} {x : PpuD} {q : PpuP} (h : (ppuO x q).p w) : x.table.length ≤ q.table.c ∧ x.dots.length ≤ q.dots.c ∧ x.table.length ≤ 1000 ∧ x.dots.length ≤ 1000 := h _ (List.mem_cons_self)
theorem PpuIn.ofO {w : World} {x : PpuD} {q : PpuP} (h : (ppuO x q).p w) : PpuIn w x q := by
  obtain ⟨h1, h2, h3, h4⟩ := ppuO_pure h
  exact ⟨InI.ofRow (h _ (by simp)) h1 (by omega), InI.ofRow (h _ (by simp)) h2 (by omega)⟩
theorem PpuSmall.ofO {w : World} {x : PpuD} {q : PpuP} (h : (ppuO x q).p w) : PpuSmall x := by
  obtain ⟨h1, h2, h3, h4⟩ := ppuO_pure h
  exact ⟨by omega, by omega⟩
theorem ppuO_fp (x : PpuD) (q : PpuP) : (ppuO x q).fp = (ppuA x q).fp := by
  have := ppuR_fp x q
  rw [← this]
  simp [ppuO, ppuR, Ast.all, Ast.pure]
theorem ppuO_ofA {w : World} {x : PpuD} {q : PpuP} (h : (ppuA x q).p w) (h1 : x.table.length ≤ 1000) (h2 : x.dots.length ≤ 1000) : (ppuO x q).p w := by
  have hi := PpuIn.of h
  have hr := ppuR_of h
  intro a ha
  simp only [List.mem_cons, List.not_mem_nil, or_false] at ha
  rcases ha with rfl | rfl | rfl
  · exact ⟨hi.table.1, hi.dots.1, h1, h2⟩
  · exact hr (rowI q.table.A (nums x.table)) (by simp)
  · exact hr (rowI q.dots.A (nums x.dots)) (by simp)
theorem ok_lens {x : PpuD} (h : x.ok = true) : x.table.length ≤ 1000 ∧ x.dots.length ≤ 1000 := by
  obtain ⟨p1, p2, p3, p4, p5, p6, p7, p8, p9⟩ := PpuD.ok_at h
  refine ⟨by omega, ?_⟩
  unfold dotsN at p8
  split at p8 <;> omega
theorem PpuD.write_ok {x : PpuD} (h : x.ok = true) (r v : Int) : (x.write r v).ok = true := by
  unfold PpuD.write
  rw [if_pos h]
  exact PpuD.wr_ok h r v
theorem PpuD.tick_ok {x : PpuD} (h : x.ok = true) : x.tick.ok = true := by
  unfold PpuD.tick
  rw [if_pos h]
  split
  · exact h
  · rename_i h2
    refine PpuD.tk_ok h ?_
    have := (PpuD.ok_at h).1
    have h3 : ¬ x.t = 20000 := by simpa using h2
    omega
def PpuD.new : PpuD := ⟨0, 0, 0, 0, 0, false, List.replicate 16 0, []⟩
theorem PpuD.new_ok : PpuD.new.ok = true := by decide +kernel
set_option maxHeartbeats 4000000 in
theorem spec_PpuNew (w : World) : Calls Try.prog 120 #[] w fun e w' => ∃ q : PpuP, e = .returned (.agg #[.int .i64 0, .int .i64 0, .int .i64 0, .int .i64 0, .int .i64 0, .bool false, .slice q.table.A 16 q.table.c, .slice q.dots.A 0 q.dots.c]) ∧ St w [] w' [ppuA PpuD.new q] := by
  have H := St.nil w []
  go_enter Try.func120, Try.ntmps120
  go_wp2_with (first | ((with_reducible refine g_make rfl ?_); refine ev_make (n := 16) H rfl rfl Try.underlying24 info_int rfl rfl rfl rfl (by omega) (by omega) ?_; intro gt_ W_ H_; rw [made_nums] at H_; (clear H; have H := (show St _ _ _ (intsA ⟨some ⟨gt_, 0, none⟩, 16⟩ (List.replicate 16 0) :: _) from H_); clear H_)) | ((with_reducible refine g_box rfl ?_); (first | refine ev_box (v := .int _ _) H rfl rfl rfl rfl ?_ | refine ev_box (v := .bool _) H rfl rfl rfl rfl ?_ | refine ev_box (v := .slice _ _ _) H rfl rfl rfl rfl ?_ | refine ev_box (v := .agg _) H rfl rfl rfl rfl ?_); intro g_ W_ H_; (clear H; have H := H_; clear H_)) | ((with_reducible refine g_alloc rfl ?_); refine ev_new H rfl rfl ?_; intro g_ W_ H_; (clear H; have H := H_; clear H_)) | ((with_reducible refine g_load rfl ?_); first | refine ev_ld1 H rfl rfl rfl ?_ | refine ev_lda H rfl rfl rfl ?_) | ((with_reducible refine g_store rfl ?_); (first | refine ev_sto (v := .int _ _) H rfl rfl rfl rfl rfl ?_ | refine ev_sto (v := .bool _) H rfl rfl rfl rfl rfl ?_ | refine ev_sto (v := .slice _ _ _) H rfl rfl rfl rfl rfl ?_ | refine ev_sto (v := .agg _) H rfl rfl rfl rfl rfl ?_); intro W_ H_; (clear H; have H := H_; clear H_)))
  have H_ := St.addNil H
  (clear H; have H := H_; clear H_)
  have H_ := (St.pack (l1 := [intsA ⟨some ⟨gt_, 0, none⟩, 16⟩ (List.replicate 16 0), intsA ⟨none, 0⟩ []]) (show St w [] _ [intsA ⟨none, 0⟩ [], _, intsA ⟨some ⟨gt_, 0, none⟩, 16⟩ (List.replicate 16 0)] from H) (Picks.cons (.there (.there .here)) (Picks.cons .here .nil))).take (Picks.cons Pick.here Picks.nil)
  refine' back1 Try.results120 ?_ rfl ⟨⟨⟨some ⟨gt_, 0, none⟩, 16⟩, ⟨none, 0⟩⟩, ?_, H_⟩; rotate_left 1; (focus first | (with_reducible exact rv_tmp rfl) | (refine' rv_agg H rfl ?_ ?_ ?_; rotate_left 4; (focus (repeat (first | (with_reducible exact Pick.here) | (with_reducible apply Pick.there)))); (focus exact aggT rfl); (focus rfl)) | (refine' rv_one H rfl ?_ ?_; rotate_left 3; (focus (repeat (first | (with_reducible exact Pick.here) | (with_reducible apply Pick.there)))); (focus exact oneT rfl)))
  rfl
set_option maxHeartbeats 8000000 in
theorem spec_l8DrawRight (g : Nat) (A : Option Addr) (c : Nat) (bs : List Int) (w : World) (hH : Hol w [curA g A bs.length c]) (hb : InB w A c bs) : Calls Try.prog 114 #[.pointer (some ⟨g, 0, none⟩)] w fun e w' => ∃ (x : PpuD) (q : PpuP), e = .returned (.agg #[.int .i64 x.t, .int .i64 x.ctrl, .int .i64 x.scroll, .int .i64 x.addr, .int .i64 x.pal, .bool x.blank, .slice q.table.A x.table.length q.table.c, .slice q.dots.A x.dots.length q.dots.c]) ∧ x.ok = true ∧ St w [g] w' [curA g A bs.length c, ppuA x q] := by
  have H : St w [g] w _ := hH.st
  have HG := Lib.hid (cur_lt (hH.hp _ (List.mem_singleton.2 rfl)))
  clear hH
  go_enter Try.func114, Try.ntmps114
  go_upto_region 1 with (first | ((with_reducible refine g_box rfl ?_); (first | refine ev_box (v := .int _ _) H rfl rfl rfl rfl ?_ | refine ev_box (v := .bool _) H rfl rfl rfl rfl ?_ | refine ev_box (v := .slice _ _ _) H rfl rfl rfl rfl ?_ | refine ev_box (v := .agg _) H rfl rfl rfl rfl ?_); intro g_ W_ H_; (clear H; have H := H_; clear H_)) | ((with_reducible refine g_alloc rfl ?_); refine ev_new H rfl rfl ?_; intro g_ W_ H_; (clear H; have H := H_; clear H_)) | ((with_reducible refine g_load rfl ?_); first | refine ev_ld1 H rfl rfl rfl ?_ | refine ev_lda H rfl rfl rfl ?_) | ((with_reducible refine g_store rfl ?_); (first | refine ev_sto (v := .int _ _) H rfl rfl rfl rfl rfl ?_ | refine ev_sto (v := .bool _) H rfl rfl rfl rfl rfl ?_ | refine ev_sto (v := .slice _ _ _) H rfl rfl rfl rfl rfl ?_ | refine ev_sto (v := .agg _) H rfl rfl rfl rfl rfl ?_); intro W_ H_; (clear H; have H := H_; clear H_)))
  rename Nat => gr_
  go_wp2_with (first | ((with_reducible refine g_box rfl ?_); (first | refine ev_box (v := .int _ _) H rfl rfl rfl rfl ?_ | refine ev_box (v := .bool _) H rfl rfl rfl rfl ?_ | refine ev_box (v := .slice _ _ _) H rfl rfl rfl rfl ?_ | refine ev_box (v := .agg _) H rfl rfl rfl rfl ?_); intro g_ W_ H_; (clear H; have H := H_; clear H_)) | ((with_reducible refine g_alloc rfl ?_); refine ev_new H rfl rfl ?_; intro g_ W_ H_; (clear H; have H := H_; clear H_)) | ((with_reducible refine g_load rfl ?_); first | refine ev_ld1 H rfl rfl rfl ?_ | refine ev_lda H rfl rfl rfl ?_) | ((with_reducible refine g_store rfl ?_); (first | refine ev_sto (v := .int _ _) H rfl rfl rfl rfl rfl ?_ | refine ev_sto (v := .bool _) H rfl rfl rfl rfl rfl ?_ | refine ev_sto (v := .slice _ _ _) H rfl rfl rfl rfl rfl ?_ | refine ev_sto (v := .agg _) H rfl rfl rfl rfl rfl ?_); intro W_ H_; (clear H; have H := H_; clear H_)) | (go_at_call 120; (with_reducible refine (spec_PpuNew _).mono ?_); rintro e w1 ⟨q0_, rfl, kk⟩; have H_ := H.call kk; simp only [List.append_eq, List.cons_append, List.nil_append] at H_; (clear H; have H := H_; clear H_); clear kk) | (go_at_call 86; (with_reducible refine (spec_l1Below g A c bs _ _ (cur_st H (by (repeat (first | (with_reducible exact Pick.here) | (with_reducible apply Pick.there))))) (by first | exact hb.onD H HG | exact hb.on0 H) (by omega) (by omega)).mono ?_); rintro e w1 ⟨x_, rfl, ⟨x0_, x1_⟩, kk⟩; have H_ := cur_up H kk; simp only [List.append_eq, List.cons_append, List.nil_append] at H_; (clear H; have H := H_; clear H_); clear kk))
  go_loopw [5] (fun i wr => ∃ (k : Nat) (x : PpuD) (q : PpuP), i = .int .i64 k ∧ Hid (x.ok = true) ∧ St w [g] wr [curA g A bs.length c, Ast.blk g_ [.int .i64 x.t, .int .i64 x.ctrl, .int .i64 x.scroll, .int .i64 x.addr, .int .i64 x.pal, .bool x.blank, .slice q.table.A x.table.length q.table.c, .slice q.dots.A x.dots.length q.dots.c] 26, ppuA x q, Ast.blk gr_ [.int .i64 0, .int .i64 0, .int .i64 0, .int .i64 0, .int .i64 0, .bool false, .slice none 0 0, .slice none 0 0] 26]) (fun i _ => x_.toNat - (intOf i).toNat)
  case atStart =>
    have H_ := St.take (xs := [curA g A bs.length c, Ast.blk g_ _ _, ppuA PpuD.new q0_, Ast.blk gr_ _ _]) H (by (repeat (first | (with_reducible exact Picks.nil) | (with_reducible exact Pick.here) | (with_reducible apply Pick.there) | (with_reducible apply Picks.cons))))
    exact ⟨0, PpuD.new, q0_, rfl, PpuD.new_ok, H_⟩
  case round =>
    clear H
    obtain ⟨k, x, q, rfl, HX, H⟩ := hrel
    by_cases hlt : (k : Int) < x_
    · go_upto_if 15 with (go_at_call 85; (with_reducible refine (spec_l1Once g A c bs _ _ (cur_st H (by (repeat (first | (with_reducible exact Pick.here) | (with_reducible apply Pick.there))))) (by first | exact hb.onD H HG | exact hb.on0 H) (by omega) (by omega)).mono ?_); rintro e w1 ⟨b_, rfl, kk⟩; have H_ := cur_up H kk; simp only [List.append_eq, List.cons_append, List.nil_append] at H_; (clear H; have H := H_; clear H_); clear kk)
      cases b_
      · go_wp2_with (first | ((with_reducible refine g_box rfl ?_); (first | refine ev_box (v := .int _ _) H rfl rfl rfl rfl ?_ | refine ev_box (v := .bool _) H rfl rfl rfl rfl ?_ | refine ev_box (v := .slice _ _ _) H rfl rfl rfl rfl ?_ | refine ev_box (v := .agg _) H rfl rfl rfl rfl ?_); intro g_ W_ H_; (clear H; have H := H_; clear H_)) | ((with_reducible refine g_alloc rfl ?_); refine ev_new H rfl rfl ?_; intro g_ W_ H_; (clear H; have H := H_; clear H_)) | ((with_reducible refine g_load rfl ?_); first | refine ev_ld1 H rfl rfl rfl ?_ | refine ev_lda H rfl rfl rfl ?_) | ((with_reducible refine g_store rfl ?_); (first | refine ev_sto (v := .int _ _) H rfl rfl rfl rfl rfl ?_ | refine ev_sto (v := .bool _) H rfl rfl rfl rfl rfl ?_ | refine ev_sto (v := .slice _ _ _) H rfl rfl rfl rfl rfl ?_ | refine ev_sto (v := .agg _) H rfl rfl rfl rfl rfl ?_); intro W_ H_; (clear H; have H := H_; clear H_)) | (go_at_call 17; (with_reducible refine (spec_PpuTick x q _ (PpuIn.of (H.get (x := ppuA x q) (by (repeat (first | (with_reducible exact Pick.here) | (with_reducible apply Pick.there)))))) (PpuSmall.ofOk HX.out)).mono ?_); rintro e w1 ⟨qt_, qf_, rfl, kk⟩; have H_ := H.call kk; simp only [List.append_eq, List.cons_append, List.nil_append] at H_; (clear H; have H := H_; clear H_); clear kk))
        go_roundw
        case rel => exact ⟨k + 1, x.tick, qt_, by go_num, PpuD.tick_ok HX.out, H.take (by (repeat (first | (with_reducible exact Picks.nil) | (with_reducible exact Pick.here) | (with_reducible apply Pick.there) | (with_reducible apply Picks.cons))))⟩
        case measure => simp [intOf]; omega
      · go_wp2_with (first | ((with_reducible refine g_box rfl ?_); (first | refine ev_box (v := .int _ _) H rfl rfl rfl rfl ?_ | refine ev_box (v := .bool _) H rfl rfl rfl rfl ?_ | refine ev_box (v := .slice _ _ _) H rfl rfl rfl rfl ?_ | refine ev_box (v := .agg _) H rfl rfl rfl rfl ?_); intro g_ W_ H_; (clear H; have H := H_; clear H_)) | ((with_reducible refine g_alloc rfl ?_); refine ev_new H rfl rfl ?_; intro g_ W_ H_; (clear H; have H := H_; clear H_)) | ((with_reducible refine g_load rfl ?_); first | refine ev_ld1 H rfl rfl rfl ?_ | refine ev_lda H rfl rfl rfl ?_) | ((with_reducible refine g_store rfl ?_); (first | refine ev_sto (v := .int _ _) H rfl rfl rfl rfl rfl ?_ | refine ev_sto (v := .bool _) H rfl rfl rfl rfl rfl ?_ | refine ev_sto (v := .slice _ _ _) H rfl rfl rfl rfl rfl ?_ | refine ev_sto (v := .agg _) H rfl rfl rfl rfl rfl ?_); intro W_ H_; (clear H; have H := H_; clear H_)))
        (with_reducible refine g_draw ?_)
        try simp only [Act.put, List.setIfInBounds_toArray, List.set_cons_succ, List.set_cons_zero]
        refine F_begin (ls := #[false, false, false, false, false, false, false]) (by kernel_rfl) rfl (by kernel_rfl) ?_
        have H_ := H.drew
        (clear H; have H := H_; clear H_)
        refine T_go [(1, 0, 16), (0, 1, 17), (0, 3, 19)] ?_; (repeat (first | (refine' T_pure _ rfl rfl (by kernel_rfl) (Nat.le_of_ble_eq_true (by kernel_rfl)) (fun w2_ K_ hK_ => ?_) ?_; rotate_left 1; focus ((conv => (arg 4; arg 1; whnf)); (repeat (first | exact hK_ rfl | go_step | go_guarded | go_upon | dsimp only)); done)) | (refine' T_read _ rfl rfl (by kernel_rfl) (Nat.le_of_ble_eq_true (by kernel_rfl)) (fun K_ hK_ => ?_) ?_; rotate_left 1; focus ((conv => (arg 4; arg 1; whnf)); (repeat (first | exact hK_ rfl | (go_big_may; (first | ((with_reducible refine g_load rfl ?_); first | refine ev_ld1 H rfl rfl rfl ?_ | refine ev_lda H rfl rfl rfl ?_))) | go_step | go_guarded | go_upon | dsimp only)); done)))); refine T_end ?_
        refine F_eff (ls' := #[true, true, true, true, false, false, false]) (pend' := [0]) 2 _ rfl (by kernel_rfl) (by kernel_rfl) (by kernel_rfl) (fun K_ hK_ => ?_); (conv => (arg 4; arg 1; whnf)); (repeat (first | refine hK_ _ _ rfl ?_ ?_ | (go_big_may; (first | (go_at_call 86; (with_reducible refine (spec_l1Below g A c bs 6 _ (cur_st H (by (repeat (first | (with_reducible exact Pick.here) | (with_reducible apply Pick.there))))) (by first | exact hb.onD H HG | exact hb.on0 H) (by omega) (by omega)).mono ?_); rintro e w1 ⟨y_, rfl, ⟨y0_, y1_⟩, kk⟩; have H_ := cur_up H kk; simp only [List.append_eq, List.cons_append, List.nil_append] at H_; (clear H; have H := H_; clear H_); clear kk))) | go_step | go_guarded | go_upon | dsimp only)); (focus (refine kept_cons 0 16 _ rfl rfl (Nat.le_of_ble_eq_true (by kernel_rfl)) (fun K_ hK_ => ?_) ?_; (focus ((conv => (arg 4; arg 1; whnf)); repeat (first | exact hK_ rfl | (go_big_may; (first | ((with_reducible refine g_load rfl ?_); first | refine ev_ld1 H rfl rfl rfl ?_ | refine ev_lda H rfl rfl rfl ?_))) | go_step | go_guarded | go_upon | dsimp only))); exact kept_nil))
        refine F_eff (ls' := #[true, true, true, true, true, false, false]) (pend' := [0]) 4 _ rfl (by kernel_rfl) (by kernel_rfl) (by kernel_rfl) (fun K_ hK_ => ?_); (conv => (arg 4; arg 1; whnf)); (repeat (first | refine hK_ _ _ rfl ?_ ?_ | (go_big_may; (first | (go_at_call 86; (with_reducible refine (spec_l1Below g A c bs 256 _ (cur_st H (by (repeat (first | (with_reducible exact Pick.here) | (with_reducible apply Pick.there))))) (by first | exact hb.onD H HG | exact hb.on0 H) (by omega) (by omega)).mono ?_); rintro e w1 ⟨z_, rfl, ⟨z0_, z1_⟩, kk⟩; have H_ := cur_up H kk; simp only [List.append_eq, List.cons_append, List.nil_append] at H_; (clear H; have H := H_; clear H_); clear kk))) | go_step | go_guarded | go_upon | dsimp only)); (focus (refine kept_cons 0 16 _ rfl rfl (Nat.le_of_ble_eq_true (by kernel_rfl)) (fun K_ hK_ => ?_) ?_; (focus ((conv => (arg 4; arg 1; whnf)); repeat (first | exact hK_ rfl | (go_big_may; (first | ((with_reducible refine g_load rfl ?_); first | refine ev_ld1 H rfl rfl rfl ?_ | refine ev_lda H rfl rfl rfl ?_))) | go_step | go_guarded | go_upon | dsimp only))); exact kept_nil))
        refine F_eff (ls' := #[true, true, true, true, true, true, false]) (pend' := []) 5 _ rfl (by kernel_rfl) (by kernel_rfl) (by kernel_rfl) (fun K_ hK_ => ?_); (conv => (arg 4; arg 1; whnf)); (repeat (first | refine hK_ _ _ rfl ?_ ?_ | (go_big_may; (first | (go_at_call 70; (with_reducible refine (spec_PpuWrite x q _ _ _ (PpuIn.of (H.get (x := ppuA x q) (by (repeat (first | (with_reducible exact Pick.here) | (with_reducible apply Pick.there)))))) (PpuSmall.ofOk HX.out)).mono ?_); rintro e w1 ⟨qw_, rfl, kk⟩; have H_ := H.call kk; simp only [List.append_eq, List.cons_append, List.nil_append] at H_; (clear H; have H := H_; clear H_); clear kk))) | go_step | go_guarded | go_upon | dsimp only)); (focus (exact kept_nil))
        refine F_eff (ls' := #[true, true, true, true, true, true, true]) (pend' := []) 6 _ rfl (by kernel_rfl) (by kernel_rfl) (by kernel_rfl) (fun K_ hK_ => ?_); (conv => (arg 4; arg 1; whnf)); (repeat (first | refine hK_ _ _ rfl ?_ ?_ | (go_big_may; (first | ((with_reducible refine g_store rfl ?_); (first | refine ev_sto (v := .int _ _) H rfl rfl rfl rfl rfl ?_ | refine ev_sto (v := .bool _) H rfl rfl rfl rfl rfl ?_ | refine ev_sto (v := .slice _ _ _) H rfl rfl rfl rfl rfl ?_ | refine ev_sto (v := .agg _) H rfl rfl rfl rfl rfl ?_); intro W_ H_; (clear H; have H := H_; clear H_)))) | go_step | go_guarded | go_upon | dsimp only)); (focus (exact kept_nil))
        refine F_done (by kernel_rfl) ?_
        have HY := Lib.hid (PpuD.write_ok HX.out y_ z_)
        go_wp2_with (first | ((with_reducible refine g_box rfl ?_); (first | refine ev_box (v := .int _ _) H rfl rfl rfl rfl ?_ | refine ev_box (v := .bool _) H rfl rfl rfl rfl ?_ | refine ev_box (v := .slice _ _ _) H rfl rfl rfl rfl ?_ | refine ev_box (v := .agg _) H rfl rfl rfl rfl ?_); intro g_ W_ H_; (clear H; have H := H_; clear H_)) | ((with_reducible refine g_alloc rfl ?_); refine ev_new H rfl rfl ?_; intro g_ W_ H_; (clear H; have H := H_; clear H_)) | ((with_reducible refine g_load rfl ?_); first | refine ev_ld1 H rfl rfl rfl ?_ | refine ev_lda H rfl rfl rfl ?_) | ((with_reducible refine g_store rfl ?_); (first | refine ev_sto (v := .int _ _) H rfl rfl rfl rfl rfl ?_ | refine ev_sto (v := .bool _) H rfl rfl rfl rfl rfl ?_ | refine ev_sto (v := .slice _ _ _) H rfl rfl rfl rfl rfl ?_ | refine ev_sto (v := .agg _) H rfl rfl rfl rfl rfl ?_); intro W_ H_; (clear H; have H := H_; clear H_)) | (go_at_call 17; (with_reducible refine (spec_PpuTick (x.write y_ z_) qw_ _ (PpuIn.of (H.get (x := ppuA (x.write y_ z_) qw_) (by (repeat (first | (with_reducible exact Pick.here) | (with_reducible apply Pick.there)))))) (PpuSmall.ofOk HY.out)).mono ?_); rintro e w1 ⟨qt_, qf_, rfl, kk⟩; have H_ := H.call kk; simp only [List.append_eq, List.cons_append, List.nil_append] at H_; (clear H; have H := H_; clear H_); clear kk))
        go_roundw
        case rel => exact ⟨k + 1, (x.write y_ z_).tick, qt_, by go_num, PpuD.tick_ok HY.out, H.take (by (repeat (first | (with_reducible exact Picks.nil) | (with_reducible exact Pick.here) | (with_reducible apply Pick.there) | (with_reducible apply Picks.cons))))⟩
        case measure => simp [intOf]; omega
    · go_wp2_with (first | ((with_reducible refine g_box rfl ?_); (first | refine ev_box (v := .int _ _) H rfl rfl rfl rfl ?_ | refine ev_box (v := .bool _) H rfl rfl rfl rfl ?_ | refine ev_box (v := .slice _ _ _) H rfl rfl rfl rfl ?_ | refine ev_box (v := .agg _) H rfl rfl rfl rfl ?_); intro g_ W_ H_; (clear H; have H := H_; clear H_)) | ((with_reducible refine g_alloc rfl ?_); refine ev_new H rfl rfl ?_; intro g_ W_ H_; (clear H; have H := H_; clear H_)) | ((with_reducible refine g_load rfl ?_); first | refine ev_ld1 H rfl rfl rfl ?_ | refine ev_lda H rfl rfl rfl ?_) | ((with_reducible refine g_store rfl ?_); (first | refine ev_sto (v := .int _ _) H rfl rfl rfl rfl rfl ?_ | refine ev_sto (v := .bool _) H rfl rfl rfl rfl rfl ?_ | refine ev_sto (v := .slice _ _ _) H rfl rfl rfl rfl rfl ?_ | refine ev_sto (v := .agg _) H rfl rfl rfl rfl rfl ?_); intro W_ H_; (clear H; have H := H_; clear H_)))
      refine' back1 Try.results114 ?_ rfl ?_; rotate_left 1; (focus first | (with_reducible exact rv_tmp rfl) | (refine' rv_agg H rfl ?_ ?_ ?_; rotate_left 4; (focus (repeat (first | (with_reducible exact Pick.here) | (with_reducible apply Pick.there)))); (focus exact aggT rfl); (focus rfl)) | (refine' rv_one H rfl ?_ ?_; rotate_left 3; (focus (repeat (first | (with_reducible exact Pick.here) | (with_reducible apply Pick.there)))); (focus exact oneT rfl)))
      exact ⟨x, q, rfl, HX.out, H.take (by (repeat (first | (with_reducible exact Picks.nil) | (with_reducible exact Pick.here) | (with_reducible apply Pick.there) | (with_reducible apply Picks.cons))))⟩
end Go.Proofs.Ytolfbmdgkbbnfaa.C
