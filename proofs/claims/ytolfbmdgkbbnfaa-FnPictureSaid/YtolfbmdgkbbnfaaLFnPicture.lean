/- The statement FnPictureSaid: in any Period of a drawn picture unit just one picture is told, of Seen dots. No conditions. -/
import Derived.Test.YtolfbmdgkbbnfaaRows
import Derived.Test.YtolfbmdgkbbnfaaChecked
import Derived.Test.YtolfbmdgkbbnfaaO3
import Derived.Test.YtolfbmdgkbbnfaaDR8
namespace Go.Proofs.Ytolfbmdgkbbnfaa.fnPicture
open Go.RowKit Go.Proofs.Ytolfbmdgkbbnfaa.K Go.Proofs.Ytolfbmdgkbbnfaa.B Go.Proofs.Ytolfbmdgkbbnfaa.C
set_option maxRecDepth 20000
set_option linter.unusedVariables false
set_option linter.unusedSimpArgs false
theorem tick_at {y : PpuD} (h : y.ok = true) (ht : y.t < 20000) : y.tick = y.tk ∧ y.tickA = y.asks ∧ y.tickF = y.frame := by
  have hne : (y.t == 20000) = false := by simp; omega
  refine ⟨?_, ?_, ?_⟩
  · unfold PpuD.tick; rw [if_pos h, hne]; rfl
  · unfold PpuD.tickA; rw [if_pos h, hne]; rfl
  · unfold PpuD.tickF; rw [if_pos h, hne]; rfl
/-- A unit that goes on from time a on, and how many pictures it told, of what size. -/
structure On (a : Int) (k : Nat) (y : PpuD) (n s : Int) : Prop where
  ok : y.ok = true
  t : y.t = a + k
  hn : n = (a + k + 15) / 64 - (a + 15) / 64
  hs : s = 48 * n
theorem On.start {x : PpuD} (h : x.ok = true) : On x.t 0 x 0 0 := ⟨h, by simp, by simp, by simp⟩
theorem hit {y : PpuD} (h : y.ok = true) (ht : y.t < 20000) (hm : y.t % 64 = 48) : y.tickF.length = 48 := by
  rw [(tick_at h ht).2.2]
  unfold PpuD.frame
  rw [if_pos hm]
  have := (PpuD.ok_at h).2.2.2.2.2.2.2.1
  unfold dotsN at this
  rw [if_neg (by omega)] at this
  omega
theorem miss {y : PpuD} (h : y.ok = true) (ht : y.t < 20000) (hm : ¬ y.t % 64 = 48) : y.tickF.length = 0 := by
  rw [(tick_at h ht).2.2]
  unfold PpuD.frame
  rw [if_neg hm]
  rfl
theorem tick_t {y : PpuD} (h : y.ok = true) (ht : y.t < 20000) : y.tick.t = y.t + 1 := by rw [(tick_at h ht).1, PpuD.tk_t]
theorem On.hit {a : Int} {k : Nat} {y : PpuD} {n s : Int} (h : On a k y n s) (h0 : 0 ≤ a) (h1 : a + 64 ≤ 20000) (hk : k < 64) (hm : y.t % 64 = 48) : On a (k + 1) y.tick (n + 1) y.tickF.length := by
  have ht := h.t
  have hn := h.hn
  refine ⟨PpuD.tick_ok h.ok, ?_, ?_, ?_⟩
  · rw [tick_t h.ok (by omega)]; omega
  · omega
  · rw [fnPicture.hit h.ok (by omega) hm]; omega
theorem On.miss {a : Int} {k : Nat} {y : PpuD} {n s : Int} (h : On a k y n s) (h0 : 0 ≤ a) (h1 : a + 64 ≤ 20000) (hk : k < 64) (hm : ¬ y.t % 64 = 48) : On a (k + 1) y.tick n s := by
  have ht := h.t
  have hn := h.hn
  refine ⟨PpuD.tick_ok h.ok, ?_, ?_, h.hs⟩
  · rw [tick_t h.ok (by omega)]; omega
  · omega
set_option maxRecDepth 100000 in
set_option maxHeartbeats 8000000 in
theorem walk (w : World) (A : Option Addr) (c : Nat) (bs : List Int) (hb : InB w A c bs) : Calls Try.prog 11 #[.slice A bs.length c] w fun e w' => e = .returned (.bool true) ∧ Below w.heap.size w w' := by
  have H := St.nil w []
  have hm := hb.2.1
  by_cases hbig : 1048576 < bs.length
  · go_enter Try.func11, Try.ntmps11
    go_wp2_with (first | (go_at_call 14; (with_reducible refine (laws_big _ _ _ _ hm).mono ?_); rintro e w1 ⟨rfl, rfl⟩) | ((with_reducible refine g_box rfl ?_); (first | refine ev_box (v := .int _ _) H rfl rfl rfl rfl ?_ | refine ev_box (v := .bool _) H rfl rfl rfl rfl ?_ | refine ev_box (v := .slice _ _ _) H rfl rfl rfl rfl ?_ | refine ev_box (v := .agg _) H rfl rfl rfl rfl ?_); intro g_ W_ H_; (clear H; have H := H_; clear H_)) | ((with_reducible refine g_alloc rfl ?_); refine ev_new H rfl rfl ?_; intro g_ W_ H_; (clear H; have H := H_; clear H_)) | ((with_reducible refine g_load rfl ?_); first | refine ev_ld1 H rfl rfl rfl ?_ | refine ev_lda H rfl rfl rfl ?_) | ((with_reducible refine g_store rfl ?_); (first | refine ev_sto (v := .int _ _) H rfl rfl rfl rfl rfl ?_ | refine ev_sto (v := .bool _) H rfl rfl rfl rfl rfl ?_ | refine ev_sto (v := .slice _ _ _) H rfl rfl rfl rfl rfl ?_ | refine ev_sto (v := .agg _) H rfl rfl rfl rfl rfl ?_); intro W_ H_; (clear H; have H := H_; clear H_)))
    all_goals (go_ret; exact ⟨rfl, H.below⟩)
  · go_enter Try.func11, Try.ntmps11
    go_upto_region 4 with (first | (go_at_call 14; (with_reducible refine (laws_big _ _ _ _ hm).mono ?_); rintro e w1 ⟨rfl, rfl⟩) | (go_at_call 15; (with_reducible refine (spec_DrawPpuTick A c bs _ (hb.on0 H)).mono ?_); rintro e w1 ⟨x, q, rfl, kk⟩; have H_ := H.call kk; simp only [List.append_eq, List.cons_append, List.nil_append] at H_; (clear H; have H := H_; clear H_); clear kk) | ((with_reducible refine g_alloc rfl ?_); refine ev_new (T := 26) H rfl rfl ?_; intro g3_ W_ H_; (clear H; have H := H_; clear H_)) | ((with_reducible refine g_box rfl ?_); (first | refine ev_box (v := .int _ _) H rfl rfl rfl rfl ?_ | refine ev_box (v := .bool _) H rfl rfl rfl rfl ?_ | refine ev_box (v := .slice _ _ _) H rfl rfl rfl rfl ?_ | refine ev_box (v := .agg _) H rfl rfl rfl rfl ?_); intro g_ W_ H_; (clear H; have H := H_; clear H_)) | ((with_reducible refine g_alloc rfl ?_); refine ev_new H rfl rfl ?_; intro g_ W_ H_; (clear H; have H := H_; clear H_)) | ((with_reducible refine g_load rfl ?_); first | refine ev_ld1 H rfl rfl rfl ?_ | refine ev_lda H rfl rfl rfl ?_) | ((with_reducible refine g_store rfl ?_); (first | refine ev_sto (v := .int _ _) H rfl rfl rfl rfl rfl ?_ | refine ev_sto (v := .bool _) H rfl rfl rfl rfl rfl ?_ | refine ev_sto (v := .slice _ _ _) H rfl rfl rfl rfl rfl ?_ | refine ev_sto (v := .agg _) H rfl rfl rfl rfl rfl ?_); intro W_ H_; (clear H; have H := H_; clear H_)))
    have hnn : (x.tickA != x.tickA) = false := by simp
    go_upto_region 6 with (first | (go_at_call 16; (with_reducible refine (impl_PpuTick x q _ (PpuIn.ofO (H.get (x := ppuO x q) (by ((repeat (first | (with_reducible exact Pick.here) | (with_reducible apply Pick.there))); done)))) (PpuSmall.ofO (H.get (x := ppuO x q) (by ((repeat (first | (with_reducible exact Pick.here) | (with_reducible apply Pick.there))); done))))).mono ?_); rintro e w1 ⟨qa_, fa_, rfl, kk⟩; have H_ := H.call kk; simp only [List.append_eq, List.cons_append, List.nil_append] at H_; (clear H; have H := H_; clear H_); clear kk) | (go_at_call 17; (with_reducible refine (spec_PpuTick x q _ (PpuIn.ofO (H.get (x := ppuO x q) (by ((repeat (first | (with_reducible exact Pick.here) | (with_reducible apply Pick.there))); done)))) (PpuSmall.ofO (H.get (x := ppuO x q) (by ((repeat (first | (with_reducible exact Pick.here) | (with_reducible apply Pick.there))); done))))).mono ?_); rintro e w1 ⟨qb_, fb_, rfl, kk⟩; have H_ := H.call kk; simp only [List.append_eq, List.cons_append, List.nil_append] at H_; (clear H; have H := H_; clear H_); clear kk) | ((with_reducible refine g_box rfl ?_); (first | refine ev_box (v := .int _ _) H rfl rfl rfl rfl ?_ | refine ev_box (v := .bool _) H rfl rfl rfl rfl ?_ | refine ev_box (v := .slice _ _ _) H rfl rfl rfl rfl ?_ | refine ev_box (v := .agg _) H rfl rfl rfl rfl ?_); intro g_ W_ H_; (clear H; have H := H_; clear H_)) | ((with_reducible refine g_alloc rfl ?_); refine ev_new H rfl rfl ?_; intro g_ W_ H_; (clear H; have H := H_; clear H_)) | ((with_reducible refine g_load rfl ?_); first | refine ev_ld1 H rfl rfl rfl ?_ | refine ev_lda H rfl rfl rfl ?_) | ((with_reducible refine g_store rfl ?_); (first | refine ev_sto (v := .int _ _) H rfl rfl rfl rfl rfl ?_ | refine ev_sto (v := .bool _) H rfl rfl rfl rfl rfl ?_ | refine ev_sto (v := .slice _ _ _) H rfl rfl rfl rfl rfl ?_ | refine ev_sto (v := .agg _) H rfl rfl rfl rfl rfl ?_); intro W_ H_; (clear H; have H := H_; clear H_)) | ((with_reducible refine g_box rfl ?_); (first | refine ev_box (v := .int _ _) H rfl rfl rfl rfl ?_ | refine ev_box (v := .bool _) H rfl rfl rfl rfl ?_ | refine ev_box (v := .slice _ _ _) H rfl rfl rfl rfl ?_ | refine ev_box (v := .agg _) H rfl rfl rfl rfl ?_); intro g_ W_ H_; (clear H; have H := H_; clear H_)) | ((with_reducible refine g_alloc rfl ?_); refine ev_new H rfl rfl ?_; intro g_ W_ H_; (clear H; have H := H_; clear H_)) | ((with_reducible refine g_load rfl ?_); first | refine ev_ld1 H rfl rfl rfl ?_ | refine ev_lda H rfl rfl rfl ?_) | ((with_reducible refine g_store rfl ?_); (first | refine ev_sto (v := .int _ _) H rfl rfl rfl rfl rfl ?_ | refine ev_sto (v := .bool _) H rfl rfl rfl rfl rfl ?_ | refine ev_sto (v := .slice _ _ _) H rfl rfl rfl rfl rfl ?_ | refine ev_sto (v := .agg _) H rfl rfl rfl rfl rfl ?_); intro W_ H_; (clear H; have H := H_; clear H_)))
    (with_reducible refine g_draw ?_)
    try simp only [Act.put, List.setIfInBounds_toArray, List.set_cons_succ, List.set_cons_zero]
    refine F_begin (ls := #[false, false, false, false, false, false, false, false, false, false, false, false, false, false, false, false]) (by kernel_rfl) rfl (by kernel_rfl) ?_
    have H_ := H.drew
    (clear H; have H := H_; clear H_)
    refine T_go [(0, 0, 32), (0, 1, 33)] ?_; (repeat ((refine' T_pure _ rfl rfl (by kernel_rfl) (Nat.le_of_ble_eq_true (by kernel_rfl)) (fun w2_ K_ hK_ => ?_) ?_; rotate_left 1; focus ((conv => (arg 4; arg 1; whnf)); (repeat (first | exact hK_ rfl | go_step | go_guarded | go_upon | dsimp only)); done)))); refine T_end ?_
    refine F_eff (ls' := #[true, true, true, false, false, false, false, false, false, false, false, false, false, false, false, false]) (pend' := []) 2 _ rfl (by kernel_rfl) (by kernel_rfl) (by kernel_rfl) (fun K_ hK_ => ?_); (conv => (arg 4; arg 1; whnf)); (repeat (first | refine hK_ _ _ rfl ?_ ?_ | (go_big_may; (first | (go_at_call 63; (with_reducible refine (laws_sameInts fa_.A fb_.A fa_.c fb_.c x.tickF _ (InI.ofS (H.get (x := intsA fa_ x.tickF) (by ((repeat (first | (with_reducible exact Pick.here) | (with_reducible apply Pick.there))); done)))) (InI.ofS (H.get (x := intsA fb_ x.tickF) (by ((repeat (first | (with_reducible exact Pick.here) | (with_reducible apply Pick.there))); done))))).mono ?_); rintro e w1 ⟨rfl, kb⟩; (have H_ := H.callB kb; (clear H; have H := H_; clear H_); clear kb)))) | go_step | go_guarded | go_upon | dsimp only)); (focus (exact kept_nil))
    refine T_go [(0, 3, 35), (0, 4, 36), (0, 5, 37), (0, 6, 38), (0, 7, 39), (0, 8, 40), (0, 9, 41), (1, 10, 42), (1, 12, 44)] ?_; (repeat (first | (refine' T_pure _ rfl rfl (by kernel_rfl) (Nat.le_of_ble_eq_true (by kernel_rfl)) (fun w2_ K_ hK_ => ?_) ?_; rotate_left 1; focus ((conv => (arg 4; arg 1; whnf)); (repeat (first | exact hK_ rfl | go_step | go_guarded | go_upon | dsimp only)); done)) | (refine' T_read _ rfl rfl (by kernel_rfl) (Nat.le_of_ble_eq_true (by kernel_rfl)) (fun K_ hK_ => ?_) ?_; rotate_left 1; focus ((conv => (arg 4; arg 1; whnf)); (repeat (first | exact hK_ rfl | (go_big_may; (first | ((with_reducible refine g_load rfl ?_); first | refine ev_ld1 H rfl rfl rfl ?_ | refine ev_lda H rfl rfl rfl ?_))) | go_step | go_guarded | go_upon | dsimp only)); done)))); refine T_end ?_
    refine F_eff (ls' := #[true, true, true, true, true, true, true, true, true, true, true, true, true, false, false, false]) (pend' := [12]) 11 _ rfl (by kernel_rfl) (by kernel_rfl) (by kernel_rfl) (fun K_ hK_ => ?_); (conv => (arg 4; arg 1; whnf)); (repeat (first | refine hK_ _ _ rfl ?_ ?_ | (go_big_may; (first | (go_at_call 64; (with_reducible refine (impl_PpuOk x q _ (PpuIn.ofO (H.get (x := ppuO x q) (by ((repeat (first | (with_reducible exact Pick.here) | (with_reducible apply Pick.there))); done))))).mono ?_); rintro e w1 ⟨rfl, kb⟩; (have H_ := H.callB kb; (clear H; have H := H_; clear H_); clear kb)))) | go_step | go_guarded | go_upon | dsimp only)); (focus (refine kept_cons 12 44 _ rfl rfl (Nat.le_of_ble_eq_true (by kernel_rfl)) (fun K_ hK_ => ?_) ?_; (focus ((conv => (arg 4; arg 1; whnf)); repeat (first | exact hK_ rfl | (go_big_may; (first | ((with_reducible refine g_load rfl ?_); first | refine ev_ld1 H rfl rfl rfl ?_ | refine ev_lda H rfl rfl rfl ?_) | ((with_reducible refine g_load rfl ?_); first | refine ev_ld1 H rfl rfl rfl ?_ | refine ev_lda H rfl rfl rfl ?_))) | go_step | go_guarded | go_upon | dsimp only))); exact kept_nil))
    refine F_eff (ls' := #[true, true, true, true, true, true, true, true, true, true, true, true, true, true, false, false]) (pend' := []) 13 _ rfl (by kernel_rfl) (by kernel_rfl) (by kernel_rfl) (fun K_ hK_ => ?_); (conv => (arg 4; arg 1; whnf)); (repeat (first | refine hK_ _ _ rfl ?_ ?_ | (go_big_may; (first | (go_at_call 18; (with_reducible refine (spec_PpuOk x q _ (PpuIn.ofO (H.get (x := ppuO x q) (by ((repeat (first | (with_reducible exact Pick.here) | (with_reducible apply Pick.there))); done))))).mono ?_); rintro e w1 ⟨rfl, kb⟩; (have H_ := H.callB kb; (clear H; have H := H_; clear H_); clear kb)))) | go_step | go_guarded | go_upon | dsimp only)); (focus (exact kept_nil))
    refine T_go [(0, 14, 46), (0, 15, 47)] ?_; (repeat ((refine' T_pure _ rfl rfl (by kernel_rfl) (Nat.le_of_ble_eq_true (by kernel_rfl)) (fun w2_ K_ hK_ => ?_) ?_; rotate_left 1; focus ((conv => (arg 4; arg 1; whnf)); (repeat (first | exact hK_ rfl | go_step | go_guarded | go_upon | dsimp only)); done)))); refine T_end ?_
    refine F_done (by kernel_rfl) ?_
    cases hk : x.ok
    · have e1 : x.tick.table.length = 0 := by simp [PpuD.tick, hk, PpuD.zero]
      have E1 := Lib.hid e1
      clear e1
      go_wp2_with (first | (go_at_call 18; (with_reducible refine (spec_PpuOk x q _ (PpuIn.ofO (H.get (x := ppuO x q) (by ((repeat (first | (with_reducible exact Pick.here) | (with_reducible apply Pick.there))); done))))).mono ?_); rintro e w1 ⟨rfl, kb⟩; rw [hk]; (have H_ := H.callB kb; (clear H; have H := H_; clear H_); clear kb)) | ((with_reducible refine g_box rfl ?_); (first | refine ev_box (v := .int _ _) H rfl rfl rfl rfl ?_ | refine ev_box (v := .bool _) H rfl rfl rfl rfl ?_ | refine ev_box (v := .slice _ _ _) H rfl rfl rfl rfl ?_ | refine ev_box (v := .agg _) H rfl rfl rfl rfl ?_); intro g_ W_ H_; (clear H; have H := H_; clear H_)) | ((with_reducible refine g_alloc rfl ?_); refine ev_new H rfl rfl ?_; intro g_ W_ H_; (clear H; have H := H_; clear H_)) | ((with_reducible refine g_load rfl ?_); first | refine ev_ld1 H rfl rfl rfl ?_ | refine ev_lda H rfl rfl rfl ?_) | ((with_reducible refine g_store rfl ?_); (first | refine ev_sto (v := .int _ _) H rfl rfl rfl rfl rfl ?_ | refine ev_sto (v := .bool _) H rfl rfl rfl rfl rfl ?_ | refine ev_sto (v := .slice _ _ _) H rfl rfl rfl rfl rfl ?_ | refine ev_sto (v := .agg _) H rfl rfl rfl rfl rfl ?_); intro W_ H_; (clear H; have H := H_; clear H_)))
      all_goals (go_ret; exact ⟨ret_b (by simp [E1.out]), H.below⟩)
    · obtain ⟨t0_, t1_⟩ := (PpuD.ok_at hk).1
      have HK := Lib.hid hk
      by_cases hl : 20000 < x.t + 64
      · cases hx : (x.t == 20000)
        · have hne : ¬ x.t = 20000 := by simpa using hx
          have e4 : (x.tick.t == x.t + 1) = true := by rw [tick_t hk (by omega)]; simp
          clear hne
          go_wp2_with (first | (go_at_call 18; (with_reducible refine (spec_PpuOk x q _ (PpuIn.ofO (H.get (x := ppuO x q) (by ((repeat (first | (with_reducible exact Pick.here) | (with_reducible apply Pick.there))); done))))).mono ?_); rintro e w1 ⟨rfl, kb⟩; rw [hk]; (have H_ := H.callB kb; (clear H; have H := H_; clear H_); clear kb)) | ((with_reducible refine g_box rfl ?_); (first | refine ev_box (v := .int _ _) H rfl rfl rfl rfl ?_ | refine ev_box (v := .bool _) H rfl rfl rfl rfl ?_ | refine ev_box (v := .slice _ _ _) H rfl rfl rfl rfl ?_ | refine ev_box (v := .agg _) H rfl rfl rfl rfl ?_); intro g_ W_ H_; (clear H; have H := H_; clear H_)) | ((with_reducible refine g_alloc rfl ?_); refine ev_new H rfl rfl ?_; intro g_ W_ H_; (clear H; have H := H_; clear H_)) | ((with_reducible refine g_load rfl ?_); first | refine ev_ld1 H rfl rfl rfl ?_ | refine ev_lda H rfl rfl rfl ?_) | ((with_reducible refine g_store rfl ?_); (first | refine ev_sto (v := .int _ _) H rfl rfl rfl rfl rfl ?_ | refine ev_sto (v := .bool _) H rfl rfl rfl rfl rfl ?_ | refine ev_sto (v := .slice _ _ _) H rfl rfl rfl rfl rfl ?_ | refine ev_sto (v := .agg _) H rfl rfl rfl rfl rfl ?_); intro W_ H_; (clear H; have H := H_; clear H_)))
          all_goals (go_ret; exact ⟨ret_b (by first | rfl | (simp [*]; done)), H.below⟩)
        · have e3 : x.tick = x := by simp [PpuD.tick, hk, hx]
          have e4 : (x.tick.t == x.t + 1) = false := by rw [e3]; simp; omega
          clear e3
          go_wp2_with (first | (go_at_call 18; (with_reducible refine (spec_PpuOk x q _ (PpuIn.ofO (H.get (x := ppuO x q) (by ((repeat (first | (with_reducible exact Pick.here) | (with_reducible apply Pick.there))); done))))).mono ?_); rintro e w1 ⟨rfl, kb⟩; rw [hk]; (have H_ := H.callB kb; (clear H; have H := H_; clear H_); clear kb)) | ((with_reducible refine g_box rfl ?_); (first | refine ev_box (v := .int _ _) H rfl rfl rfl rfl ?_ | refine ev_box (v := .bool _) H rfl rfl rfl rfl ?_ | refine ev_box (v := .slice _ _ _) H rfl rfl rfl rfl ?_ | refine ev_box (v := .agg _) H rfl rfl rfl rfl ?_); intro g_ W_ H_; (clear H; have H := H_; clear H_)) | ((with_reducible refine g_alloc rfl ?_); refine ev_new H rfl rfl ?_; intro g_ W_ H_; (clear H; have H := H_; clear H_)) | ((with_reducible refine g_load rfl ?_); first | refine ev_ld1 H rfl rfl rfl ?_ | refine ev_lda H rfl rfl rfl ?_) | ((with_reducible refine g_store rfl ?_); (first | refine ev_sto (v := .int _ _) H rfl rfl rfl rfl rfl ?_ | refine ev_sto (v := .bool _) H rfl rfl rfl rfl rfl ?_ | refine ev_sto (v := .slice _ _ _) H rfl rfl rfl rfl rfl ?_ | refine ev_sto (v := .agg _) H rfl rfl rfl rfl rfl ?_); intro W_ H_; (clear H; have H := H_; clear H_)))
          all_goals (go_ret; exact ⟨ret_b (by first | rfl | (simp [*]; done)), H.below⟩)
      · go_upto_region 14 with (first | (go_at_call 18; (with_reducible refine (spec_PpuOk x q _ (PpuIn.ofO (H.get (x := ppuO x q) (by ((repeat (first | (with_reducible exact Pick.here) | (with_reducible apply Pick.there))); done))))).mono ?_); rintro e w1 ⟨rfl, kb⟩; rw [hk]; (have H_ := H.callB kb; (clear H; have H := H_; clear H_); clear kb)) | ((with_reducible refine g_box rfl ?_); (first | refine ev_box (v := .int _ _) H rfl rfl rfl rfl ?_ | refine ev_box (v := .bool _) H rfl rfl rfl rfl ?_ | refine ev_box (v := .slice _ _ _) H rfl rfl rfl rfl ?_ | refine ev_box (v := .agg _) H rfl rfl rfl rfl ?_); intro g_ W_ H_; (clear H; have H := H_; clear H_)) | ((with_reducible refine g_alloc rfl ?_); refine ev_new H rfl rfl ?_; intro g_ W_ H_; (clear H; have H := H_; clear H_)) | ((with_reducible refine g_load rfl ?_); first | refine ev_ld1 H rfl rfl rfl ?_ | refine ev_lda H rfl rfl rfl ?_) | ((with_reducible refine g_store rfl ?_); (first | refine ev_sto (v := .int _ _) H rfl rfl rfl rfl rfl ?_ | refine ev_sto (v := .bool _) H rfl rfl rfl rfl rfl ?_ | refine ev_sto (v := .slice _ _ _) H rfl rfl rfl rfl rfl ?_ | refine ev_sto (v := .agg _) H rfl rfl rfl rfl rfl ?_); intro W_ H_; (clear H; have H := H_; clear H_)))
        clear hk
        go_loopw [10, 11, 12] (fun nv sv i wr => ∃ (k : Nat) (y : PpuD) (q1 : PpuP) (n s : Int), k ≤ 64 ∧ i = .int .i64 k ∧ nv = .int .i64 n ∧ sv = .int .i64 s ∧ Hid (On x.t k y n s) ∧ St w [] wr [Ast.blk g3_ [.int .i64 y.t, .int .i64 y.ctrl, .int .i64 y.scroll, .int .i64 y.addr, .int .i64 y.pal, .bool y.blank, .slice q1.table.A y.table.length q1.table.c, .slice q1.dots.A y.dots.length q1.dots.c] 26, ppuO y q1]) (fun _ _ i _ => 64 - (intOf i).toNat)
        case atStart => exact ⟨0, x, q, 0, 0, by omega, rfl, rfl, rfl, On.start HK.out, H.take (by (repeat (first | (with_reducible exact Picks.nil) | (with_reducible exact Pick.here) | (with_reducible apply Pick.there) | (with_reducible apply Picks.cons))))⟩
        case round =>
          clear H
          obtain ⟨k, y, q1, n, s, hk, rfl, rfl, rfl, HO, H⟩ := hrel
          have hn := Lib.hid HO.out.hn
          by_cases hlt : (k : Int) < 64
          · have ht : y.t < 20000 := by have := HO.out.t; omega
            have hT : (y.tick.t != y.t + 1) = false := by rw [tick_t HO.out.ok ht]; simp
            have hY : y.tick.ok = true := PpuD.tick_ok HO.out.ok
            have hy0 := (PpuD.ok_at HO.out.ok).1.1
            have hn0 : 0 ≤ n := by have := hn.out; omega
            have hn1 : n ≤ 10 := by have := hn.out; omega
            by_cases hm : y.t % 64 = 48
            · have HM := Lib.hid hm
              have hg : 0 < (y.tickF.length : Int) := by have := hit HO.out.ok ht hm; omega
              clear hm
              go_wp2_with (first | (go_at_call 16; (with_reducible refine (impl_PpuTick y q1 _ (PpuIn.ofO (H.get (x := ppuO y q1) (by ((repeat (first | (with_reducible exact Pick.here) | (with_reducible apply Pick.there))); done)))) (PpuSmall.ofO (H.get (x := ppuO y q1) (by ((repeat (first | (with_reducible exact Pick.here) | (with_reducible apply Pick.there))); done))))).mono ?_); rintro e w1 ⟨q2_, f2_, rfl, kk⟩; have H_ := H.call kk; simp only [List.append_eq, List.cons_append, List.nil_append] at H_; (clear H; have H := H_; clear H_); clear kk) | (go_at_call 64; (with_reducible refine (impl_PpuOk y.tick q2_ _ (PpuIn.of (H.get (x := ppuA y.tick q2_) (by ((repeat (first | (with_reducible exact Pick.here) | (with_reducible apply Pick.there))); done))))).mono ?_); rintro e w1 ⟨rfl, kb⟩; rw [hY]; (have H_ := H.callB kb; (clear H; have H := H_; clear H_); clear kb)) | ((with_reducible refine g_box rfl ?_); (first | refine ev_box (v := .int _ _) H rfl rfl rfl rfl ?_ | refine ev_box (v := .bool _) H rfl rfl rfl rfl ?_ | refine ev_box (v := .slice _ _ _) H rfl rfl rfl rfl ?_ | refine ev_box (v := .agg _) H rfl rfl rfl rfl ?_); intro g_ W_ H_; (clear H; have H := H_; clear H_)) | ((with_reducible refine g_alloc rfl ?_); refine ev_new H rfl rfl ?_; intro g_ W_ H_; (clear H; have H := H_; clear H_)) | ((with_reducible refine g_load rfl ?_); first | refine ev_ld1 H rfl rfl rfl ?_ | refine ev_lda H rfl rfl rfl ?_) | ((with_reducible refine g_store rfl ?_); (first | refine ev_sto (v := .int _ _) H rfl rfl rfl rfl rfl ?_ | refine ev_sto (v := .bool _) H rfl rfl rfl rfl rfl ?_ | refine ev_sto (v := .slice _ _ _) H rfl rfl rfl rfl rfl ?_ | refine ev_sto (v := .agg _) H rfl rfl rfl rfl rfl ?_); intro W_ H_; (clear H; have H := H_; clear H_)))
              have H_ := St.ppuO (x := y.tick) (q := q2_) H (by (repeat (first | (with_reducible exact Pick.here) | (with_reducible apply Pick.there)))) (ok_lens (PpuD.tick_ok HO.out.ok)).1 (ok_lens (PpuD.tick_ok HO.out.ok)).2
              (clear H; have H := H_; clear H_)
              go_roundw
              case rel => exact ⟨k + 1, y.tick, q2_, _, _, by omega, by go_num, rfl, rfl, (HO.out.hit t0_ (by omega) (by omega) HM.out), H.take (by (repeat (first | (with_reducible exact Picks.nil) | (with_reducible exact Pick.here) | (with_reducible apply Pick.there) | (with_reducible apply Picks.cons))))⟩
              case measure => simp [intOf]; omega
            · have HM := Lib.hid hm
              have hg : ¬ 0 < (y.tickF.length : Int) := by have := miss HO.out.ok ht hm; omega
              clear hm
              go_wp2_with (first | (go_at_call 16; (with_reducible refine (impl_PpuTick y q1 _ (PpuIn.ofO (H.get (x := ppuO y q1) (by ((repeat (first | (with_reducible exact Pick.here) | (with_reducible apply Pick.there))); done)))) (PpuSmall.ofO (H.get (x := ppuO y q1) (by ((repeat (first | (with_reducible exact Pick.here) | (with_reducible apply Pick.there))); done))))).mono ?_); rintro e w1 ⟨q2_, f2_, rfl, kk⟩; have H_ := H.call kk; simp only [List.append_eq, List.cons_append, List.nil_append] at H_; (clear H; have H := H_; clear H_); clear kk) | (go_at_call 64; (with_reducible refine (impl_PpuOk y.tick q2_ _ (PpuIn.of (H.get (x := ppuA y.tick q2_) (by ((repeat (first | (with_reducible exact Pick.here) | (with_reducible apply Pick.there))); done))))).mono ?_); rintro e w1 ⟨rfl, kb⟩; rw [hY]; (have H_ := H.callB kb; (clear H; have H := H_; clear H_); clear kb)) | ((with_reducible refine g_box rfl ?_); (first | refine ev_box (v := .int _ _) H rfl rfl rfl rfl ?_ | refine ev_box (v := .bool _) H rfl rfl rfl rfl ?_ | refine ev_box (v := .slice _ _ _) H rfl rfl rfl rfl ?_ | refine ev_box (v := .agg _) H rfl rfl rfl rfl ?_); intro g_ W_ H_; (clear H; have H := H_; clear H_)) | ((with_reducible refine g_alloc rfl ?_); refine ev_new H rfl rfl ?_; intro g_ W_ H_; (clear H; have H := H_; clear H_)) | ((with_reducible refine g_load rfl ?_); first | refine ev_ld1 H rfl rfl rfl ?_ | refine ev_lda H rfl rfl rfl ?_) | ((with_reducible refine g_store rfl ?_); (first | refine ev_sto (v := .int _ _) H rfl rfl rfl rfl rfl ?_ | refine ev_sto (v := .bool _) H rfl rfl rfl rfl rfl ?_ | refine ev_sto (v := .slice _ _ _) H rfl rfl rfl rfl rfl ?_ | refine ev_sto (v := .agg _) H rfl rfl rfl rfl rfl ?_); intro W_ H_; (clear H; have H := H_; clear H_)))
              have H_ := St.ppuO (x := y.tick) (q := q2_) H (by (repeat (first | (with_reducible exact Pick.here) | (with_reducible apply Pick.there)))) (ok_lens (PpuD.tick_ok HO.out.ok)).1 (ok_lens (PpuD.tick_ok HO.out.ok)).2
              (clear H; have H := H_; clear H_)
              go_roundw
              case rel => exact ⟨k + 1, y.tick, q2_, _, _, by omega, by go_num, rfl, rfl, (HO.out.miss t0_ (by omega) (by omega) HM.out), H.take (by (repeat (first | (with_reducible exact Picks.nil) | (with_reducible exact Pick.here) | (with_reducible apply Pick.there) | (with_reducible apply Picks.cons))))⟩
              case measure => simp [intOf]; omega
          · have hk2 : k = 64 := by omega
            have en : n = 1 := by have := hn.out; omega
            have es : s = 48 := by have := HO.out.hs; omega
            clear hn HO
            subst en es
            go_wp2_with (first | ((with_reducible refine g_box rfl ?_); (first | refine ev_box (v := .int _ _) H rfl rfl rfl rfl ?_ | refine ev_box (v := .bool _) H rfl rfl rfl rfl ?_ | refine ev_box (v := .slice _ _ _) H rfl rfl rfl rfl ?_ | refine ev_box (v := .agg _) H rfl rfl rfl rfl ?_); intro g_ W_ H_; (clear H; have H := H_; clear H_)) | ((with_reducible refine g_alloc rfl ?_); refine ev_new H rfl rfl ?_; intro g_ W_ H_; (clear H; have H := H_; clear H_)) | ((with_reducible refine g_load rfl ?_); first | refine ev_ld1 H rfl rfl rfl ?_ | refine ev_lda H rfl rfl rfl ?_) | ((with_reducible refine g_store rfl ?_); (first | refine ev_sto (v := .int _ _) H rfl rfl rfl rfl rfl ?_ | refine ev_sto (v := .bool _) H rfl rfl rfl rfl rfl ?_ | refine ev_sto (v := .slice _ _ _) H rfl rfl rfl rfl rfl ?_ | refine ev_sto (v := .agg _) H rfl rfl rfl rfl rfl ?_); intro W_ H_; (clear H; have H := H_; clear H_)))
            all_goals (go_ret; exact ⟨ret_b (by rfl), H.below⟩)
end Go.Proofs.Ytolfbmdgkbbnfaa.fnPicture
namespace Go.Proofs.Ytolfbmdgkbbnfaa.fnPicture
open Go.ChangeShapes Go.WideShapes Go.ChangeAt Go.RowKit Go.Proofs.Ytolfbmdgkbbnfaa.K Go.Proofs.Ytolfbmdgkbbnfaa.B Go.Proofs.Ytolfbmdgkbbnfaa.C
set_option linter.unusedVariables false
theorem own : ownKnob Try.prog.godebug = none := by kernel_rfl
theorem laidOut : laidOutB Try.prog = true := by kernel_rfl
set_option maxRecDepth 100000 in
set_option maxHeartbeats 1000000 in
theorem lifted (os : Os) (started : os.Started) (H : Type) (enc : TypeId × Value → H) :
    ReturnsInHanded {} Try.checked os 11 .any (Rows.fnPictureSpec.pre6 enc Try.prog Try.f11 Rows.fnPictureRow.domain false) (Rows.fnPictureSpec.post enc Try.prog Try.f11 false true false false) := by
  refine returnsInHanded_of_change_sized (C := Try.checked) own started (by kernel_rfl) Try.func11
    (ChangeSpec.witness6 (enc := enc) (C := Try.checked) false ⟨#[], #[.slice none 0 0], []⟩ 8 (by kernel_rfl) (by kernel_rfl) (by kernel_rfl) (by kernel_rfl)) ?_
  intro W base args ds gs before hval0 hW hcnd hsz0 _
  have hval : ∀ (j : Nat) t v, Try.f11.params[j]? = some t → args[j]? = some v → Value.okWide Try.prog W .any base t v := hval0
  have hW' := hW
  obtain ⟨p, q, hA0, hV, rfl, hfz, hnd⟩ := hW
  have hA : DataW.TrodAll enc Try.prog W 0 (fun _ => true) true Try.f11.params.toList args.toList ds p := hA0
  rw [Try.params11] at hA hval
  obtain ⟨v0, vs0, d0, ds0, p0, q0, hargs, rfl, rfl, h0, r0⟩ := trodAll_cons hA
  obtain ⟨rfl, rfl, rfl⟩ := trodAll_nil r0
  obtain rfl : args = #[v0] := by cases args; simp_all
  obtain ⟨rfl, rfl⟩ := trodVars_none hV
  have k0 := h0
  have lt0 : ∀ x ∈ p0, x.block < W.heap.size := by obtain ⟨m, hm⟩ := k0; exact DataW.trod_lt m _ _ _ hm
  obtain ⟨A0_, n0_, c0_, rfl⟩ := okWide_slice Try.underlying22 (hval 0 22 v0 rfl rfl)
  obtain ⟨m0, hm0⟩ := h0
  obtain ⟨A0, c0, l0, e0, i0⟩ := leaf_bytes Try.underlying22 Try.underlying5 (by kernel_rfl) (by simpa [Value.cells] using hm0)
  injection e0 with e0a e0b e0c
  subst e0a e0b e0c
  clear hA0 hval0 hsz0
  refine (walk W A0_ c0_ l0 i0).mono fun e W' ⟨he, bel⟩ => ?_
  subst he
  exact ⟨_, rfl, _, _, _, [], _, [], hW', trodAll_mk1 (shut_bool Try.underlying4 _), (trodAll_cons_mk (Below.trod laidOut (by kernel_rfl) (of_decide_eq_true (by kernel_rfl)) k0 bel lt0) trodAll_mk0), rfl, bel.frame _, fun h => by cases h⟩
theorem over : Rows.fnPictureRow.holds Try.pinned (OpenSpec.ofChange Rows.fnPictureSpec) :=
  OpenClaim.holds_of_wide 11 Try.f11 rfl rfl rfl rfl rfl rfl rfl ⟨rfl, rfl, rfl, rfl, rfl⟩ rfl rfl rfl rfl rfl (by kernel_rfl) Try.func11 (by kernel_rfl)
    (of_decide_eq_true (by kernel_rfl)) (by unfold Func.isWrapper; first | (rw [if_pos (by decide +kernel)]; kernel_rfl) | (rw [if_neg (by decide +kernel)]; exact ⟨rfl, rfl⟩))
    (fun os started H enc _ => lifted os started H enc)
theorem proved : Rows.FnPictureSaid := over
end Go.Proofs.Ytolfbmdgkbbnfaa.fnPicture
namespace Go.Proofs.Ytolfbmdgkbbnfaa
theorem fnPicture_holds : Rows.FnPictureSaid := fnPicture.proved
end Go.Proofs.Ytolfbmdgkbbnfaa
