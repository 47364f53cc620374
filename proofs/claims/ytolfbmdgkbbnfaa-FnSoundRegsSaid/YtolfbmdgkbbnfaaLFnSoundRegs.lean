/- The statement FnSoundRegsSaid: what is read of a drawn sound unit is whether it asks and sounds, and it asks no more; writes take no time. No conditions. -/
import Derived.Test.YtolfbmdgkbbnfaaRows
import Derived.Test.YtolfbmdgkbbnfaaChecked
import Derived.Test.YtolfbmdgkbbnfaaO3
import Derived.Test.YtolfbmdgkbbnfaaDR4
namespace Go.Proofs.Ytolfbmdgkbbnfaa.fnSoundRegs
open Go.RowKit Go.Proofs.Ytolfbmdgkbbnfaa.K Go.Proofs.Ytolfbmdgkbbnfaa.B Go.Proofs.Ytolfbmdgkbbnfaa.C
set_option maxRecDepth 20000
set_option linter.unusedVariables false
set_option linter.unusedSimpArgs false
theorem wr_t (a : ApuD) (r v : Int) : (a.write r v).t = a.t := by unfold ApuD.write; (repeat' split) <;> rfl
theorem wr_c (a : ApuD) (r v : Int) : (a.write r v).c = a.c := by unfold ApuD.write; (repeat' split) <;> rfl
theorem wr3 {a : ApuD} (h : a.ok = true) (i : Bool) : (ApuD.mk a.t a.p a.c a.b a.l a.k i).write 3 0 = ⟨a.t, a.p, a.c, a.b, a.l, a.k, false⟩ := by
  have h' : (ApuD.mk a.t a.p a.c a.b a.l a.k i).ok = true := h
  simp [ApuD.write, h']
theorem wr2 {a : ApuD} (h : a.ok = true) (i : Bool) : (ApuD.mk a.t a.p a.c a.b a.l a.k i).write 2 0 = ⟨a.t, a.p, a.c, a.b, a.l, false, false⟩ := by
  have h' : (ApuD.mk a.t a.p a.c a.b a.l a.k i).ok = true := h
  simp [ApuD.write, h']
theorem tk_l {a : ApuD} : a.tk.l ≤ a.l := by unfold ApuD.tk; simp only; split <;> omega
theorem tk_i {a : ApuD} (h0 : 0 ≤ a.t) (h1 : a.t < 20000) : (a.i = true ∧ a.tk.i = true) ∨ (a.i = false ∧ a.tk.i = false) ∨ (a.i = false ∧ a.tk.i = true ∧ cyc a.t (a.t + 1) 0 32 = true) := by
  cases hi : a.i
  · cases ht : a.tk.i
    · exact .inr (.inl ⟨rfl, rfl⟩)
    · refine .inr (.inr ⟨rfl, rfl, ?_⟩)
      have hb : a.beat = true := by
        cases hb : a.beat
        · simp [ApuD.tk, hb, hi] at ht
        · rfl
      have h2 := (ApuD.beat_t hb).1
      unfold cyc tim
      rw [decide_eq_true_eq]
      (repeat' split) <;> omega
  · refine .inl ⟨rfl, ?_⟩
    simp [ApuD.tk, hi]
theorem smp_two {a : ApuD} (h : a.ok = true) : a.smp = 0 ∨ a.smp = 8 := by
  rw [ApuD.ok_iff] at h
  have h7 : 0 ≤ a.tk.b ∧ a.tk.b ≤ 1 := by simp only [ApuD.tk]; repeat' split <;> omega
  unfold ApuD.smp
  split <;> omega
theorem says_v {a : ApuD} (h : a.ok = true) : decide (128 ≤ a.says 2) = a.i ∧ ((a.says 2).tmod 2 == 1) = decide (0 < a.l) ∧ 0 ≤ a.says 2 := by
  have e : a.says 2 = 128 * (if a.i = true then 1 else 0) + (if 0 < a.l then 1 else 0) := by simp [ApuD.says, h]
  rw [e]
  cases a.i <;> by_cases hl : 0 < a.l <;> simp [hl] <;> decide
set_option maxRecDepth 100000 in
set_option maxHeartbeats 8000000 in
theorem walk (w : World) (A : Option Addr) (c : Nat) (bs : List Int) (hb : InB w A c bs) : Calls Try.prog 10 #[.slice A bs.length c] w fun e w' => e = .returned (.bool true) ∧ Below w.heap.size w w' := by
  have H := St.nil w []
  have hm := hb.2.1
  by_cases hbig : 1048576 < bs.length
  · go_enter Try.func10, Try.ntmps10
    go_wp2_with (first | (go_at_call 14; (with_reducible refine (laws_big _ _ _ _ hm).mono ?_); rintro e w1 ⟨rfl, rfl⟩) | ((with_reducible refine g_box rfl ?_); (first | refine ev_box (v := .int _ _) H rfl rfl rfl rfl ?_ | refine ev_box (v := .bool _) H rfl rfl rfl rfl ?_ | refine ev_box (v := .slice _ _ _) H rfl rfl rfl rfl ?_ | refine ev_box (v := .agg _) H rfl rfl rfl rfl ?_); intro g_ W_ H_; (clear H; have H := H_; clear H_)) | ((with_reducible refine g_alloc rfl ?_); refine ev_new H rfl rfl ?_; intro g_ W_ H_; (clear H; have H := H_; clear H_)) | ((with_reducible refine g_load rfl ?_); first | refine ev_ld1 H rfl rfl rfl ?_ | refine ev_lda H rfl rfl rfl ?_) | ((with_reducible refine g_store rfl ?_); (first | refine ev_sto (v := .int _ _) H rfl rfl rfl rfl rfl ?_ | refine ev_sto (v := .bool _) H rfl rfl rfl rfl rfl ?_ | refine ev_sto (v := .slice _ _ _) H rfl rfl rfl rfl rfl ?_ | refine ev_sto (v := .agg _) H rfl rfl rfl rfl rfl ?_); intro W_ H_; (clear H; have H := H_; clear H_)))
    all_goals (go_ret; exact ⟨rfl, H.below⟩)
  · go_enter Try.func10, Try.ntmps10
    go_upto_region 4 with (first | (go_at_call 14; (with_reducible refine (laws_big _ _ _ _ hm).mono ?_); rintro e w1 ⟨rfl, rfl⟩) | (go_at_call 58; (with_reducible refine (spec_DrawApuRead A c bs _ (hb.on0 H)).mono ?_); rintro e w1 ⟨⟨a, r, rfl⟩, kb⟩; (have H_ := H.callB kb; (clear H; have H := H_; clear H_); clear kb)) | ((with_reducible refine g_box rfl ?_); (first | refine ev_box (v := .int _ _) H rfl rfl rfl rfl ?_ | refine ev_box (v := .bool _) H rfl rfl rfl rfl ?_ | refine ev_box (v := .slice _ _ _) H rfl rfl rfl rfl ?_ | refine ev_box (v := .agg _) H rfl rfl rfl rfl ?_); intro g_ W_ H_; (clear H; have H := H_; clear H_)) | ((with_reducible refine g_alloc rfl ?_); refine ev_new H rfl rfl ?_; intro g_ W_ H_; (clear H; have H := H_; clear H_)) | ((with_reducible refine g_load rfl ?_); first | refine ev_ld1 H rfl rfl rfl ?_ | refine ev_lda H rfl rfl rfl ?_) | ((with_reducible refine g_store rfl ?_); (first | refine ev_sto (v := .int _ _) H rfl rfl rfl rfl rfl ?_ | refine ev_sto (v := .bool _) H rfl rfl rfl rfl rfl ?_ | refine ev_sto (v := .slice _ _ _) H rfl rfl rfl rfl rfl ?_ | refine ev_sto (v := .agg _) H rfl rfl rfl rfl rfl ?_); intro W_ H_; (clear H; have H := H_; clear H_)))
    cases hk : a.ok
    · have e1 : a.read r = a := by simp [ApuD.read, hk]
      have e2 : a.says r = 0 := by simp [ApuD.says, hk]
      focus
        go_upto_region 9 with (first | (go_at_call 59; (with_reducible refine (impl_ApuRead a _ _).mono ?_); rintro e w1 ⟨rfl, kb⟩; rw [e1]; (try rw [e2]); (have H_ := H.callB kb; (clear H; have H := H_; clear H_); clear kb)) | (go_at_call 60; (with_reducible refine (spec_ApuRead a _ _).mono ?_); rintro e w1 ⟨rfl, kb⟩; rw [e1]; (try rw [e2]); (have H_ := H.callB kb; (clear H; have H := H_; clear H_); clear kb)) | (go_at_call 61; (with_reducible refine (spec_DrawApuWrite A c bs _ (hb.on0 H)).mono ?_); rintro e w1 ⟨⟨x, k, n, rfl⟩, kb⟩; (have H_ := H.callB kb; (clear H; have H := H_; clear H_); clear kb)) | ((with_reducible refine g_box rfl ?_); (first | refine ev_box (v := .int _ _) H rfl rfl rfl rfl ?_ | refine ev_box (v := .bool _) H rfl rfl rfl rfl ?_ | refine ev_box (v := .slice _ _ _) H rfl rfl rfl rfl ?_ | refine ev_box (v := .agg _) H rfl rfl rfl rfl ?_); intro g_ W_ H_; (clear H; have H := H_; clear H_)) | ((with_reducible refine g_alloc rfl ?_); refine ev_new H rfl rfl ?_; intro g_ W_ H_; (clear H; have H := H_; clear H_)) | ((with_reducible refine g_load rfl ?_); first | refine ev_ld1 H rfl rfl rfl ?_ | refine ev_lda H rfl rfl rfl ?_) | ((with_reducible refine g_store rfl ?_); (first | refine ev_sto (v := .int _ _) H rfl rfl rfl rfl rfl ?_ | refine ev_sto (v := .bool _) H rfl rfl rfl rfl rfl ?_ | refine ev_sto (v := .slice _ _ _) H rfl rfl rfl rfl rfl ?_ | refine ev_sto (v := .agg _) H rfl rfl rfl rfl rfl ?_); intro W_ H_; (clear H; have H := H_; clear H_)))
        have n1 : ((x.write k n).t != x.t) = false := by simp [wr_t]
        have n2 : ((x.write k n).c != x.c) = false := by simp [wr_c]
        go_upto_region 10 with (first | (go_at_call 57; (with_reducible refine (impl_ApuWrite x k n _).mono ?_); rintro e w1 ⟨rfl, kb⟩; (have H_ := H.callB kb; (clear H; have H := H_; clear H_); clear kb)) | ((with_reducible refine g_box rfl ?_); (first | refine ev_box (v := .int _ _) H rfl rfl rfl rfl ?_ | refine ev_box (v := .bool _) H rfl rfl rfl rfl ?_ | refine ev_box (v := .slice _ _ _) H rfl rfl rfl rfl ?_ | refine ev_box (v := .agg _) H rfl rfl rfl rfl ?_); intro g_ W_ H_; (clear H; have H := H_; clear H_)) | ((with_reducible refine g_alloc rfl ?_); refine ev_new H rfl rfl ?_; intro g_ W_ H_; (clear H; have H := H_; clear H_)) | ((with_reducible refine g_load rfl ?_); first | refine ev_ld1 H rfl rfl rfl ?_ | refine ev_lda H rfl rfl rfl ?_) | ((with_reducible refine g_store rfl ?_); (first | refine ev_sto (v := .int _ _) H rfl rfl rfl rfl rfl ?_ | refine ev_sto (v := .bool _) H rfl rfl rfl rfl rfl ?_ | refine ev_sto (v := .slice _ _ _) H rfl rfl rfl rfl rfl ?_ | refine ev_sto (v := .agg _) H rfl rfl rfl rfl rfl ?_); intro W_ H_; (clear H; have H := H_; clear H_)))
        (with_reducible refine g_draw ?_)
        try simp only [Act.put, List.setIfInBounds_toArray, List.set_cons_succ, List.set_cons_zero]
        refine F_begin (ls := #[false, false, false, false, false, false, false, false, false, false, false, false, false, false, false, false, false, false, false, false]) (by kernel_rfl) rfl (by kernel_rfl) ?_
        have H_ := H.drew
        (clear H; have H := H_; clear H_)
        refine T_go [(1, 0, 50), (1, 1, 51), (0, 2, 52), (0, 3, 53)] ?_; (repeat (first | (refine' T_pure _ rfl rfl (by kernel_rfl) (Nat.le_of_ble_eq_true (by kernel_rfl)) (fun w2_ K_ hK_ => ?_) ?_; rotate_left 1; focus ((conv => (arg 4; arg 1; whnf)); (repeat (first | exact hK_ rfl | go_step | go_guarded | go_upon | dsimp only)); done)) | (refine' T_read _ rfl rfl (by kernel_rfl) (Nat.le_of_ble_eq_true (by kernel_rfl)) (fun K_ hK_ => ?_) ?_; rotate_left 1; focus ((conv => (arg 4; arg 1; whnf)); (repeat (first | exact hK_ rfl | (go_big_may; (first | ((with_reducible refine g_load rfl ?_); first | refine ev_ld1 H rfl rfl rfl ?_ | refine ev_lda H rfl rfl rfl ?_))) | go_step | go_guarded | go_upon | dsimp only)); done)))); refine T_end ?_
        refine F_eff (ls' := #[true, true, true, true, true, false, false, false, false, false, false, false, false, false, false, false, false, false, false, false]) (pend' := [0]) 4 _ rfl (by kernel_rfl) (by kernel_rfl) (by kernel_rfl) (fun K_ hK_ => ?_); (conv => (arg 4; arg 1; whnf)); (repeat (first | refine hK_ _ _ rfl ?_ ?_ | (go_big_may; (first | (go_at_call 62; (with_reducible refine (spec_ApuWrite x k n _).mono ?_); rintro e w1 ⟨rfl, kb⟩; (have H_ := H.callB kb; (clear H; have H := H_; clear H_); clear kb)))) | go_step | go_guarded | go_upon | dsimp only)); (focus (refine kept_cons 0 50 _ rfl rfl (Nat.le_of_ble_eq_true (by kernel_rfl)) (fun K_ hK_ => ?_) ?_; (focus ((conv => (arg 4; arg 1; whnf)); repeat (first | exact hK_ rfl | (go_big_may; (first | ((with_reducible refine g_load rfl ?_); first | refine ev_ld1 H rfl rfl rfl ?_ | refine ev_lda H rfl rfl rfl ?_))) | go_step | go_guarded | go_upon | dsimp only))); exact kept_nil))
        refine T_go [(0, 5, 55), (0, 6, 56), (0, 7, 57), (1, 8, 58), (0, 9, 59), (1, 10, 60), (0, 11, 61), (0, 12, 62), (0, 13, 63), (0, 14, 64), (1, 15, 65), (0, 16, 66), (1, 17, 67), (0, 18, 68), (0, 19, 69)] ?_; (repeat (first | (refine' T_pure _ rfl rfl (by kernel_rfl) (Nat.le_of_ble_eq_true (by kernel_rfl)) (fun w2_ K_ hK_ => ?_) ?_; rotate_left 1; focus ((conv => (arg 4; arg 1; whnf)); (repeat (first | exact hK_ rfl | go_step | go_guarded | go_upon | dsimp only)); done)) | (refine' T_read _ rfl rfl (by kernel_rfl) (Nat.le_of_ble_eq_true (by kernel_rfl)) (fun K_ hK_ => ?_) ?_; rotate_left 1; focus ((conv => (arg 4; arg 1; whnf)); (repeat (first | exact hK_ rfl | (go_big_may; (first | ((with_reducible refine g_load rfl ?_); first | refine ev_ld1 H rfl rfl rfl ?_ | refine ev_lda H rfl rfl rfl ?_))) | go_step | go_guarded | go_upon | dsimp only)); done)))); refine T_end ?_
        refine F_done (by kernel_rfl) ?_
        go_wp2_with (first | (go_at_call 56; (with_reducible refine (spec_ApuOk a _).mono ?_); rintro e w1 ⟨rfl, kb⟩; rw [hk]; (have H_ := H.callB kb; (clear H; have H := H_; clear H_); clear kb)) | (go_at_call 55; (with_reducible refine (impl_ApuOk ⟨a.t, a.p, a.c, a.b, a.l, a.k, false⟩ _).mono ?_); rintro e w1 ⟨rfl, kb⟩; rw [hk2]; (have H_ := H.callB kb; (clear H; have H := H_; clear H_); clear kb)) | ((with_reducible refine g_box rfl ?_); (first | refine ev_box (v := .int _ _) H rfl rfl rfl rfl ?_ | refine ev_box (v := .bool _) H rfl rfl rfl rfl ?_ | refine ev_box (v := .slice _ _ _) H rfl rfl rfl rfl ?_ | refine ev_box (v := .agg _) H rfl rfl rfl rfl ?_); intro g_ W_ H_; (clear H; have H := H_; clear H_)) | ((with_reducible refine g_alloc rfl ?_); refine ev_new H rfl rfl ?_; intro g_ W_ H_; (clear H; have H := H_; clear H_)) | ((with_reducible refine g_load rfl ?_); first | refine ev_ld1 H rfl rfl rfl ?_ | refine ev_lda H rfl rfl rfl ?_) | ((with_reducible refine g_store rfl ?_); (first | refine ev_sto (v := .int _ _) H rfl rfl rfl rfl rfl ?_ | refine ev_sto (v := .bool _) H rfl rfl rfl rfl rfl ?_ | refine ev_sto (v := .slice _ _ _) H rfl rfl rfl rfl rfl ?_ | refine ev_sto (v := .agg _) H rfl rfl rfl rfl rfl ?_); intro W_ H_; (clear H; have H := H_; clear H_)))
        all_goals (go_ret; exact ⟨ret_b (by first | (simp; done) | (simp_all; done)), H.below⟩)
    · by_cases hr : r = 2
      · subst hr
        have e1 : a.read 2 = ⟨a.t, a.p, a.c, a.b, a.l, a.k, false⟩ := by simp [ApuD.read, hk]
        obtain ⟨h1, h2, h3⟩ := says_v hk
        have hk2 : (ApuD.mk a.t a.p a.c a.b a.l a.k false).ok = true := hk
        have h4 : (a.says 2 % 2 == 1) = decide (0 < a.l) := by rw [← tm h3]; exact h2
        go_upto_region 9 with (first | (go_at_call 59; (with_reducible refine (impl_ApuRead a _ _).mono ?_); rintro e w1 ⟨rfl, kb⟩; rw [e1]; (try rw [e2]); (have H_ := H.callB kb; (clear H; have H := H_; clear H_); clear kb)) | (go_at_call 60; (with_reducible refine (spec_ApuRead a _ _).mono ?_); rintro e w1 ⟨rfl, kb⟩; rw [e1]; (try rw [e2]); (have H_ := H.callB kb; (clear H; have H := H_; clear H_); clear kb)) | (go_at_call 61; (with_reducible refine (spec_DrawApuWrite A c bs _ (hb.on0 H)).mono ?_); rintro e w1 ⟨⟨x, k, n, rfl⟩, kb⟩; (have H_ := H.callB kb; (clear H; have H := H_; clear H_); clear kb)) | ((with_reducible refine g_box rfl ?_); (first | refine ev_box (v := .int _ _) H rfl rfl rfl rfl ?_ | refine ev_box (v := .bool _) H rfl rfl rfl rfl ?_ | refine ev_box (v := .slice _ _ _) H rfl rfl rfl rfl ?_ | refine ev_box (v := .agg _) H rfl rfl rfl rfl ?_); intro g_ W_ H_; (clear H; have H := H_; clear H_)) | ((with_reducible refine g_alloc rfl ?_); refine ev_new H rfl rfl ?_; intro g_ W_ H_; (clear H; have H := H_; clear H_)) | ((with_reducible refine g_load rfl ?_); first | refine ev_ld1 H rfl rfl rfl ?_ | refine ev_lda H rfl rfl rfl ?_) | ((with_reducible refine g_store rfl ?_); (first | refine ev_sto (v := .int _ _) H rfl rfl rfl rfl rfl ?_ | refine ev_sto (v := .bool _) H rfl rfl rfl rfl rfl ?_ | refine ev_sto (v := .slice _ _ _) H rfl rfl rfl rfl rfl ?_ | refine ev_sto (v := .agg _) H rfl rfl rfl rfl rfl ?_); intro W_ H_; (clear H; have H := H_; clear H_)))
        have n1 : ((x.write k n).t != x.t) = false := by simp [wr_t]
        have n2 : ((x.write k n).c != x.c) = false := by simp [wr_c]
        go_upto_region 10 with (first | (go_at_call 57; (with_reducible refine (impl_ApuWrite x k n _).mono ?_); rintro e w1 ⟨rfl, kb⟩; (have H_ := H.callB kb; (clear H; have H := H_; clear H_); clear kb)) | ((with_reducible refine g_box rfl ?_); (first | refine ev_box (v := .int _ _) H rfl rfl rfl rfl ?_ | refine ev_box (v := .bool _) H rfl rfl rfl rfl ?_ | refine ev_box (v := .slice _ _ _) H rfl rfl rfl rfl ?_ | refine ev_box (v := .agg _) H rfl rfl rfl rfl ?_); intro g_ W_ H_; (clear H; have H := H_; clear H_)) | ((with_reducible refine g_alloc rfl ?_); refine ev_new H rfl rfl ?_; intro g_ W_ H_; (clear H; have H := H_; clear H_)) | ((with_reducible refine g_load rfl ?_); first | refine ev_ld1 H rfl rfl rfl ?_ | refine ev_lda H rfl rfl rfl ?_) | ((with_reducible refine g_store rfl ?_); (first | refine ev_sto (v := .int _ _) H rfl rfl rfl rfl rfl ?_ | refine ev_sto (v := .bool _) H rfl rfl rfl rfl rfl ?_ | refine ev_sto (v := .slice _ _ _) H rfl rfl rfl rfl rfl ?_ | refine ev_sto (v := .agg _) H rfl rfl rfl rfl rfl ?_); intro W_ H_; (clear H; have H := H_; clear H_)))
        (with_reducible refine g_draw ?_)
        try simp only [Act.put, List.setIfInBounds_toArray, List.set_cons_succ, List.set_cons_zero]
        refine F_begin (ls := #[false, false, false, false, false, false, false, false, false, false, false, false, false, false, false, false, false, false, false, false]) (by kernel_rfl) rfl (by kernel_rfl) ?_
        have H_ := H.drew
        (clear H; have H := H_; clear H_)
        refine T_go [(1, 0, 50), (1, 1, 51), (0, 2, 52), (0, 3, 53)] ?_; (repeat (first | (refine' T_pure _ rfl rfl (by kernel_rfl) (Nat.le_of_ble_eq_true (by kernel_rfl)) (fun w2_ K_ hK_ => ?_) ?_; rotate_left 1; focus ((conv => (arg 4; arg 1; whnf)); (repeat (first | exact hK_ rfl | go_step | go_guarded | go_upon | dsimp only)); done)) | (refine' T_read _ rfl rfl (by kernel_rfl) (Nat.le_of_ble_eq_true (by kernel_rfl)) (fun K_ hK_ => ?_) ?_; rotate_left 1; focus ((conv => (arg 4; arg 1; whnf)); (repeat (first | exact hK_ rfl | (go_big_may; (first | ((with_reducible refine g_load rfl ?_); first | refine ev_ld1 H rfl rfl rfl ?_ | refine ev_lda H rfl rfl rfl ?_))) | go_step | go_guarded | go_upon | dsimp only)); done)))); refine T_end ?_
        refine F_eff (ls' := #[true, true, true, true, true, false, false, false, false, false, false, false, false, false, false, false, false, false, false, false]) (pend' := [0]) 4 _ rfl (by kernel_rfl) (by kernel_rfl) (by kernel_rfl) (fun K_ hK_ => ?_); (conv => (arg 4; arg 1; whnf)); (repeat (first | refine hK_ _ _ rfl ?_ ?_ | (go_big_may; (first | (go_at_call 62; (with_reducible refine (spec_ApuWrite x k n _).mono ?_); rintro e w1 ⟨rfl, kb⟩; (have H_ := H.callB kb; (clear H; have H := H_; clear H_); clear kb)))) | go_step | go_guarded | go_upon | dsimp only)); (focus (refine kept_cons 0 50 _ rfl rfl (Nat.le_of_ble_eq_true (by kernel_rfl)) (fun K_ hK_ => ?_) ?_; (focus ((conv => (arg 4; arg 1; whnf)); repeat (first | exact hK_ rfl | (go_big_may; (first | ((with_reducible refine g_load rfl ?_); first | refine ev_ld1 H rfl rfl rfl ?_ | refine ev_lda H rfl rfl rfl ?_))) | go_step | go_guarded | go_upon | dsimp only))); exact kept_nil))
        refine T_go [(0, 5, 55), (0, 6, 56), (0, 7, 57), (1, 8, 58), (0, 9, 59), (1, 10, 60), (0, 11, 61), (0, 12, 62), (0, 13, 63), (0, 14, 64), (1, 15, 65), (0, 16, 66), (1, 17, 67), (0, 18, 68), (0, 19, 69)] ?_; (repeat (first | (refine' T_pure _ rfl rfl (by kernel_rfl) (Nat.le_of_ble_eq_true (by kernel_rfl)) (fun w2_ K_ hK_ => ?_) ?_; rotate_left 1; focus ((conv => (arg 4; arg 1; whnf)); (repeat (first | exact hK_ rfl | go_step | go_guarded | go_upon | dsimp only)); done)) | (refine' T_read _ rfl rfl (by kernel_rfl) (Nat.le_of_ble_eq_true (by kernel_rfl)) (fun K_ hK_ => ?_) ?_; rotate_left 1; focus ((conv => (arg 4; arg 1; whnf)); (repeat (first | exact hK_ rfl | (go_big_may; (first | ((with_reducible refine g_load rfl ?_); first | refine ev_ld1 H rfl rfl rfl ?_ | refine ev_lda H rfl rfl rfl ?_))) | go_step | go_guarded | go_upon | dsimp only)); done)))); refine T_end ?_
        refine F_done (by kernel_rfl) ?_
        go_wp2_with (first | (go_at_call 56; (with_reducible refine (spec_ApuOk a _).mono ?_); rintro e w1 ⟨rfl, kb⟩; rw [hk]; (have H_ := H.callB kb; (clear H; have H := H_; clear H_); clear kb)) | (go_at_call 55; (with_reducible refine (impl_ApuOk ⟨a.t, a.p, a.c, a.b, a.l, a.k, false⟩ _).mono ?_); rintro e w1 ⟨rfl, kb⟩; rw [hk2]; (have H_ := H.callB kb; (clear H; have H := H_; clear H_); clear kb)) | ((with_reducible refine g_box rfl ?_); (first | refine ev_box (v := .int _ _) H rfl rfl rfl rfl ?_ | refine ev_box (v := .bool _) H rfl rfl rfl rfl ?_ | refine ev_box (v := .slice _ _ _) H rfl rfl rfl rfl ?_ | refine ev_box (v := .agg _) H rfl rfl rfl rfl ?_); intro g_ W_ H_; (clear H; have H := H_; clear H_)) | ((with_reducible refine g_alloc rfl ?_); refine ev_new H rfl rfl ?_; intro g_ W_ H_; (clear H; have H := H_; clear H_)) | ((with_reducible refine g_load rfl ?_); first | refine ev_ld1 H rfl rfl rfl ?_ | refine ev_lda H rfl rfl rfl ?_) | ((with_reducible refine g_store rfl ?_); (first | refine ev_sto (v := .int _ _) H rfl rfl rfl rfl rfl ?_ | refine ev_sto (v := .bool _) H rfl rfl rfl rfl rfl ?_ | refine ev_sto (v := .slice _ _ _) H rfl rfl rfl rfl rfl ?_ | refine ev_sto (v := .agg _) H rfl rfl rfl rfl rfl ?_); intro W_ H_; (clear H; have H := H_; clear H_)))
        all_goals (go_ret; exact ⟨ret_b (by first | (simp; done) | (simp_all; done)), H.below⟩)
      · have e1 : a.read r = a := by simp [ApuD.read, hr]
        have e2 : a.says r = 0 := by simp [ApuD.says, hr]
        have hr2 : (r != 2) = true := by simp [hr]
        go_upto_region 9 with (first | (go_at_call 59; (with_reducible refine (impl_ApuRead a _ _).mono ?_); rintro e w1 ⟨rfl, kb⟩; rw [e1]; (try rw [e2]); (have H_ := H.callB kb; (clear H; have H := H_; clear H_); clear kb)) | (go_at_call 60; (with_reducible refine (spec_ApuRead a _ _).mono ?_); rintro e w1 ⟨rfl, kb⟩; rw [e1]; (try rw [e2]); (have H_ := H.callB kb; (clear H; have H := H_; clear H_); clear kb)) | (go_at_call 61; (with_reducible refine (spec_DrawApuWrite A c bs _ (hb.on0 H)).mono ?_); rintro e w1 ⟨⟨x, k, n, rfl⟩, kb⟩; (have H_ := H.callB kb; (clear H; have H := H_; clear H_); clear kb)) | ((with_reducible refine g_box rfl ?_); (first | refine ev_box (v := .int _ _) H rfl rfl rfl rfl ?_ | refine ev_box (v := .bool _) H rfl rfl rfl rfl ?_ | refine ev_box (v := .slice _ _ _) H rfl rfl rfl rfl ?_ | refine ev_box (v := .agg _) H rfl rfl rfl rfl ?_); intro g_ W_ H_; (clear H; have H := H_; clear H_)) | ((with_reducible refine g_alloc rfl ?_); refine ev_new H rfl rfl ?_; intro g_ W_ H_; (clear H; have H := H_; clear H_)) | ((with_reducible refine g_load rfl ?_); first | refine ev_ld1 H rfl rfl rfl ?_ | refine ev_lda H rfl rfl rfl ?_) | ((with_reducible refine g_store rfl ?_); (first | refine ev_sto (v := .int _ _) H rfl rfl rfl rfl rfl ?_ | refine ev_sto (v := .bool _) H rfl rfl rfl rfl rfl ?_ | refine ev_sto (v := .slice _ _ _) H rfl rfl rfl rfl rfl ?_ | refine ev_sto (v := .agg _) H rfl rfl rfl rfl rfl ?_); intro W_ H_; (clear H; have H := H_; clear H_)))
        have n1 : ((x.write k n).t != x.t) = false := by simp [wr_t]
        have n2 : ((x.write k n).c != x.c) = false := by simp [wr_c]
        go_upto_region 10 with (first | (go_at_call 57; (with_reducible refine (impl_ApuWrite x k n _).mono ?_); rintro e w1 ⟨rfl, kb⟩; (have H_ := H.callB kb; (clear H; have H := H_; clear H_); clear kb)) | ((with_reducible refine g_box rfl ?_); (first | refine ev_box (v := .int _ _) H rfl rfl rfl rfl ?_ | refine ev_box (v := .bool _) H rfl rfl rfl rfl ?_ | refine ev_box (v := .slice _ _ _) H rfl rfl rfl rfl ?_ | refine ev_box (v := .agg _) H rfl rfl rfl rfl ?_); intro g_ W_ H_; (clear H; have H := H_; clear H_)) | ((with_reducible refine g_alloc rfl ?_); refine ev_new H rfl rfl ?_; intro g_ W_ H_; (clear H; have H := H_; clear H_)) | ((with_reducible refine g_load rfl ?_); first | refine ev_ld1 H rfl rfl rfl ?_ | refine ev_lda H rfl rfl rfl ?_) | ((with_reducible refine g_store rfl ?_); (first | refine ev_sto (v := .int _ _) H rfl rfl rfl rfl rfl ?_ | refine ev_sto (v := .bool _) H rfl rfl rfl rfl rfl ?_ | refine ev_sto (v := .slice _ _ _) H rfl rfl rfl rfl rfl ?_ | refine ev_sto (v := .agg _) H rfl rfl rfl rfl rfl ?_); intro W_ H_; (clear H; have H := H_; clear H_)))
        (with_reducible refine g_draw ?_)
        try simp only [Act.put, List.setIfInBounds_toArray, List.set_cons_succ, List.set_cons_zero]
        refine F_begin (ls := #[false, false, false, false, false, false, false, false, false, false, false, false, false, false, false, false, false, false, false, false]) (by kernel_rfl) rfl (by kernel_rfl) ?_
        have H_ := H.drew
        (clear H; have H := H_; clear H_)
        refine T_go [(1, 0, 50), (1, 1, 51), (0, 2, 52), (0, 3, 53)] ?_; (repeat (first | (refine' T_pure _ rfl rfl (by kernel_rfl) (Nat.le_of_ble_eq_true (by kernel_rfl)) (fun w2_ K_ hK_ => ?_) ?_; rotate_left 1; focus ((conv => (arg 4; arg 1; whnf)); (repeat (first | exact hK_ rfl | go_step | go_guarded | go_upon | dsimp only)); done)) | (refine' T_read _ rfl rfl (by kernel_rfl) (Nat.le_of_ble_eq_true (by kernel_rfl)) (fun K_ hK_ => ?_) ?_; rotate_left 1; focus ((conv => (arg 4; arg 1; whnf)); (repeat (first | exact hK_ rfl | (go_big_may; (first | ((with_reducible refine g_load rfl ?_); first | refine ev_ld1 H rfl rfl rfl ?_ | refine ev_lda H rfl rfl rfl ?_))) | go_step | go_guarded | go_upon | dsimp only)); done)))); refine T_end ?_
        refine F_eff (ls' := #[true, true, true, true, true, false, false, false, false, false, false, false, false, false, false, false, false, false, false, false]) (pend' := [0]) 4 _ rfl (by kernel_rfl) (by kernel_rfl) (by kernel_rfl) (fun K_ hK_ => ?_); (conv => (arg 4; arg 1; whnf)); (repeat (first | refine hK_ _ _ rfl ?_ ?_ | (go_big_may; (first | (go_at_call 62; (with_reducible refine (spec_ApuWrite x k n _).mono ?_); rintro e w1 ⟨rfl, kb⟩; (have H_ := H.callB kb; (clear H; have H := H_; clear H_); clear kb)))) | go_step | go_guarded | go_upon | dsimp only)); (focus (refine kept_cons 0 50 _ rfl rfl (Nat.le_of_ble_eq_true (by kernel_rfl)) (fun K_ hK_ => ?_) ?_; (focus ((conv => (arg 4; arg 1; whnf)); repeat (first | exact hK_ rfl | (go_big_may; (first | ((with_reducible refine g_load rfl ?_); first | refine ev_ld1 H rfl rfl rfl ?_ | refine ev_lda H rfl rfl rfl ?_))) | go_step | go_guarded | go_upon | dsimp only))); exact kept_nil))
        refine T_go [(0, 5, 55), (0, 6, 56), (0, 7, 57), (1, 8, 58), (0, 9, 59), (1, 10, 60), (0, 11, 61), (0, 12, 62), (0, 13, 63), (0, 14, 64), (1, 15, 65), (0, 16, 66), (1, 17, 67), (0, 18, 68), (0, 19, 69)] ?_; (repeat (first | (refine' T_pure _ rfl rfl (by kernel_rfl) (Nat.le_of_ble_eq_true (by kernel_rfl)) (fun w2_ K_ hK_ => ?_) ?_; rotate_left 1; focus ((conv => (arg 4; arg 1; whnf)); (repeat (first | exact hK_ rfl | go_step | go_guarded | go_upon | dsimp only)); done)) | (refine' T_read _ rfl rfl (by kernel_rfl) (Nat.le_of_ble_eq_true (by kernel_rfl)) (fun K_ hK_ => ?_) ?_; rotate_left 1; focus ((conv => (arg 4; arg 1; whnf)); (repeat (first | exact hK_ rfl | (go_big_may; (first | ((with_reducible refine g_load rfl ?_); first | refine ev_ld1 H rfl rfl rfl ?_ | refine ev_lda H rfl rfl rfl ?_))) | go_step | go_guarded | go_upon | dsimp only)); done)))); refine T_end ?_
        refine F_done (by kernel_rfl) ?_
        go_wp2_with (first | (go_at_call 56; (with_reducible refine (spec_ApuOk a _).mono ?_); rintro e w1 ⟨rfl, kb⟩; rw [hk]; (have H_ := H.callB kb; (clear H; have H := H_; clear H_); clear kb)) | (go_at_call 55; (with_reducible refine (impl_ApuOk ⟨a.t, a.p, a.c, a.b, a.l, a.k, false⟩ _).mono ?_); rintro e w1 ⟨rfl, kb⟩; rw [hk2]; (have H_ := H.callB kb; (clear H; have H := H_; clear H_); clear kb)) | ((with_reducible refine g_box rfl ?_); (first | refine ev_box (v := .int _ _) H rfl rfl rfl rfl ?_ | refine ev_box (v := .bool _) H rfl rfl rfl rfl ?_ | refine ev_box (v := .slice _ _ _) H rfl rfl rfl rfl ?_ | refine ev_box (v := .agg _) H rfl rfl rfl rfl ?_); intro g_ W_ H_; (clear H; have H := H_; clear H_)) | ((with_reducible refine g_alloc rfl ?_); refine ev_new H rfl rfl ?_; intro g_ W_ H_; (clear H; have H := H_; clear H_)) | ((with_reducible refine g_load rfl ?_); first | refine ev_ld1 H rfl rfl rfl ?_ | refine ev_lda H rfl rfl rfl ?_) | ((with_reducible refine g_store rfl ?_); (first | refine ev_sto (v := .int _ _) H rfl rfl rfl rfl rfl ?_ | refine ev_sto (v := .bool _) H rfl rfl rfl rfl rfl ?_ | refine ev_sto (v := .slice _ _ _) H rfl rfl rfl rfl rfl ?_ | refine ev_sto (v := .agg _) H rfl rfl rfl rfl rfl ?_); intro W_ H_; (clear H; have H := H_; clear H_)))
        all_goals (go_ret; exact ⟨ret_b (by first | (simp; done) | (simp_all; done)), H.below⟩)
end Go.Proofs.Ytolfbmdgkbbnfaa.fnSoundRegs
namespace Go.Proofs.Ytolfbmdgkbbnfaa.fnSoundRegs
open Go.ChangeShapes Go.WideShapes Go.ChangeAt Go.RowKit Go.Proofs.Ytolfbmdgkbbnfaa.K Go.Proofs.Ytolfbmdgkbbnfaa.B Go.Proofs.Ytolfbmdgkbbnfaa.C
set_option linter.unusedVariables false
theorem own : ownKnob Try.prog.godebug = none := by kernel_rfl
theorem laidOut : laidOutB Try.prog = true := by kernel_rfl
set_option maxRecDepth 100000 in
set_option maxHeartbeats 1000000 in
theorem lifted (os : Os) (started : os.Started) (H : Type) (enc : TypeId × Value → H) :
    ReturnsInHanded {} Try.checked os 10 .any (Rows.fnSoundRegsSpec.pre6 enc Try.prog Try.f10 Rows.fnSoundRegsRow.domain false) (Rows.fnSoundRegsSpec.post enc Try.prog Try.f10 false true false false) := by
  refine returnsInHanded_of_change_sized (C := Try.checked) own started (by kernel_rfl) Try.func10
    (ChangeSpec.witness6 (enc := enc) (C := Try.checked) false ⟨#[], #[.slice none 0 0], []⟩ 8 (by kernel_rfl) (by kernel_rfl) (by kernel_rfl) (by kernel_rfl)) ?_
  intro W base args ds gs before hval0 hW hcnd hsz0 _
  have hval : ∀ (j : Nat) t v, Try.f10.params[j]? = some t → args[j]? = some v → Value.okWide Try.prog W .any base t v := hval0
  have hW' := hW
  obtain ⟨p, q, hA0, hV, rfl, hfz, hnd⟩ := hW
  have hA : DataW.TrodAll enc Try.prog W 0 (fun _ => true) true Try.f10.params.toList args.toList ds p := hA0
  rw [Try.params10] at hA hval
  obtain ⟨v0, vs0, d0, ds0, p0, q0, hargs, rfl, rfl, h0, r0⟩ := trodAll_cons hA
  obtain ⟨rfl, rfl, rfl⟩ := trodAll_nil r0
  obtain rfl : args = #[v0] := by cases args; simp_all
  obtain ⟨rfl, rfl⟩ := trodVars_none hV
  have k0 := h0
  have lt0 : ∀ x ∈ p0, x.block < W.heap.size := by obtain ⟨m, hm⟩ := k0; exact DataW.trod_lt m _ _ _ hm
  obtain ⟨A0_, n0_, c0_, rfl⟩ := okWide_slice Try.underlying22 (hval 0 22 v0 rfl rfl)
  obtain ⟨m0, hm0⟩ := h0
  obtain ⟨A0, c0, l0, e0, i0⟩ := leaf_bytes Try.underlying22 Try.underlying5 (by kernel_rfl) (by simpa [Value.cells] using hm0)
  injection e0 with e0a e0b e0c
  subst e0a e0b e0c
  clear hA0 hval0 hsz0
  refine (walk W A0_ c0_ l0 i0).mono fun e W' ⟨he, bel⟩ => ?_
  subst he
  exact ⟨_, rfl, _, _, _, [], _, [], hW', trodAll_mk1 (shut_bool Try.underlying4 _), (trodAll_cons_mk (Below.trod laidOut (by kernel_rfl) (of_decide_eq_true (by kernel_rfl)) k0 bel lt0) trodAll_mk0), rfl, bel.frame _, fun h => by cases h⟩
theorem over : Rows.fnSoundRegsRow.holds Try.pinned (OpenSpec.ofChange Rows.fnSoundRegsSpec) :=
  OpenClaim.holds_of_wide 10 Try.f10 rfl rfl rfl rfl rfl rfl rfl ⟨rfl, rfl, rfl, rfl, rfl⟩ rfl rfl rfl rfl rfl (by kernel_rfl) Try.func10 (by kernel_rfl)
    (of_decide_eq_true (by kernel_rfl)) (by unfold Func.isWrapper; first | (rw [if_pos (by decide +kernel)]; kernel_rfl) | (rw [if_neg (by decide +kernel)]; exact ⟨rfl, rfl⟩))
    (fun os started H enc _ => lifted os started H enc)
theorem proved : Rows.FnSoundRegsSaid := over
end Go.Proofs.Ytolfbmdgkbbnfaa.fnSoundRegs
namespace Go.Proofs.Ytolfbmdgkbbnfaa
theorem fnSoundRegs_holds : Rows.FnSoundRegsSaid := fnSoundRegs.proved
end Go.Proofs.Ytolfbmdgkbbnfaa
