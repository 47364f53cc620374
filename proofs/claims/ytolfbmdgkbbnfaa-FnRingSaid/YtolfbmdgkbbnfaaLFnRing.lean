/- The statement FnRingSaid: records come out of a drawn ring as they went in; no more go in than it can have. No conditions. -/
import Derived.Test.YtolfbmdgkbbnfaaRows
import Derived.Test.YtolfbmdgkbbnfaaChecked
import Derived.Test.YtolfbmdgkbbnfaaO3
import Derived.Test.YtolfbmdgkbbnfaaDR5
namespace Go.Proofs.Ytolfbmdgkbbnfaa.fnRing
open Go.RowKit Go.Proofs.Ytolfbmdgkbbnfaa.K Go.Proofs.Ytolfbmdgkbbnfaa.B Go.Proofs.Ytolfbmdgkbbnfaa.C
set_option maxRecDepth 20000
set_option linter.unusedVariables false
set_option linter.unusedSimpArgs false
/-- What is left of a ring with one record more, when so many were taken. -/
def D (x : RingD) (r : RecD) (k : Nat) : RingD := ⟨x.cap, (x.list ++ [r]).drop k⟩
theorem D_len (x : RingD) (r : RecD) (k : Nat) : (D x r k).list.length = x.list.length + 1 - k := by simp [D]
theorem D_tail (x : RingD) (r : RecD) (k : Nat) : (D x r k).tail = D x r (k + 1) := by simp [D, RingD.tail, List.drop_drop]
theorem D_ok {x : RingD} {r : RecD} (h : (x.push r).ok = true) : ∀ k, (D x r k).ok = true
  | 0 => h
  | k + 1 => by rw [← D_tail]; exact RingD.tail_ok (D_ok h k)
theorem D_take {x : RingD} {r : RecD} (h : (x.push r).ok = true) (k : Nat) : (D x r k).take = D x r (k + 1) := by
  unfold RingD.take
  rw [if_pos (D_ok h k), D_tail]
theorem D_has {x : RingD} {r : RecD} (h : (x.push r).ok = true) {k : Nat} (hk : k ≤ x.list.length) : (D x r k).has = true := by
  unfold RingD.has
  rw [D_ok h k, Bool.true_and, decide_eq_true_eq, D_len]
  omega
theorem D_none {x : RingD} {r : RecD} {k : Nat} (hk : x.list.length < k) : (D x r k).has = false := by
  have : (D x r k).list.length = 0 := by rw [D_len]; omega
  simp [RingD.has, this]
theorem D_head {x : RingD} {r : RecD} (h : (x.push r).ok = true) {k : Nat} (hk : k < x.list.length) : (D x r k).head = rdr x.list k := by
  unfold RingD.head
  rw [if_pos (D_has h (by omega))]
  show rdr ((x.list ++ [r]).drop k) 0 = _
  rw [rdr_drop, Nat.add_zero]
  simp [rdr, List.getD_eq_getElem?_getD, List.getElem?_append_left hk]
theorem D_last {x : RingD} {r : RecD} (h : (x.push r).ok = true) : (D x r x.list.length).head = r := by
  unfold RingD.head
  rw [if_pos (D_has h (Nat.le_refl _))]
  show rdr ((x.list ++ [r]).drop x.list.length) 0 = _
  rw [rdr_drop, Nat.add_zero]
  simp [rdr, List.getD_eq_getElem?_getD]
theorem new_three (n : Int) : (n < 1 ∧ (RingD.mk n []).ok = false) ∨ (1 ≤ n ∧ n ≤ 16 ∧ (RingD.mk n []).ok = true) ∨ (1 ≤ n ∧ 16 < n ∧ (RingD.mk n []).ok = false) := by
  have e : (RingD.mk n []).ok = true ↔ 1 ≤ n ∧ n ≤ 16 := by
    constructor
    · intro h
      have := RingD.ok_at h
      exact this.2.1
    · intro h
      exact RingD.ok_mk rfl h.1 h.2 (by simp; omega)
  cases h : (RingD.mk n []).ok
  · have h' : ¬ (1 ≤ n ∧ n ≤ 16) := fun h2 => by rw [e.2 h2] at h; cases h
    by_cases h1 : 1 ≤ n
    · exact .inr (.inr ⟨h1, by omega, rfl⟩)
    · exact .inl ⟨by omega, rfl⟩
  · have h' := e.1 h
    exact .inr (.inl ⟨h'.1, h'.2, rfl⟩)
set_option maxRecDepth 100000 in
set_option maxHeartbeats 8000000 in
theorem walk (w : World) (A : Option Addr) (c : Nat) (bs : List Int) (hb : InB w A c bs) : Calls Try.prog 6 #[.slice A bs.length c] w fun e w' => e = .returned (.bool true) ∧ Below w.heap.size w w' := by
  have H := St.nil w []
  have hm := hb.2.1
  by_cases hbig : 1048576 < bs.length
  · go_enter Try.func6, Try.ntmps6
    go_wp2_with (first | (go_at_call 14; (with_reducible refine (laws_big _ _ _ _ hm).mono ?_); rintro e w1 ⟨rfl, rfl⟩) | ((with_reducible refine g_box rfl ?_); (first | refine ev_box (v := .int _ _) H rfl rfl rfl rfl ?_ | refine ev_box (v := .bool _) H rfl rfl rfl rfl ?_ | refine ev_box (v := .slice _ _ _) H rfl rfl rfl rfl ?_ | refine ev_box (v := .agg _) H rfl rfl rfl rfl ?_); intro g_ W_ H_; (clear H; have H := H_; clear H_)) | ((with_reducible refine g_alloc rfl ?_); refine ev_new H rfl rfl ?_; intro g_ W_ H_; (clear H; have H := H_; clear H_)) | ((with_reducible refine g_load rfl ?_); first | refine ev_ld1 H rfl rfl rfl ?_ | refine ev_lda H rfl rfl rfl ?_) | ((with_reducible refine g_store rfl ?_); (first | refine ev_sto (v := .int _ _) H rfl rfl rfl rfl rfl ?_ | refine ev_sto (v := .bool _) H rfl rfl rfl rfl rfl ?_ | refine ev_sto (v := .slice _ _ _) H rfl rfl rfl rfl rfl ?_ | refine ev_sto (v := .agg _) H rfl rfl rfl rfl rfl ?_); intro W_ H_; (clear H; have H := H_; clear H_)))
    all_goals (go_ret; exact ⟨rfl, H.below⟩)
  · go_enter Try.func6, Try.ntmps6
    go_upto_region 4 with (first | (go_at_call 14; (with_reducible refine (laws_big _ _ _ _ hm).mono ?_); rintro e w1 ⟨rfl, rfl⟩) | (go_at_call 35; (with_reducible refine (spec_DrawRingPut A c bs _ (hb.on0 H)).mono ?_); rintro e w1 ⟨x, ⟨⟨A0_, c0_⟩⟩, ⟨r, rfl⟩, hl17, kk⟩; have H_ := H.call kk; simp only [List.append_eq, List.cons_append, List.nil_append] at H_; (clear H; have H := H_; clear H_); clear kk) | ((with_reducible refine g_alloc rfl ?_); refine ev_new (T := 38) H rfl rfl ?_; intro g3_ W_ H_; (clear H; have H := H_; clear H_)) | ((with_reducible refine g_alloc rfl ?_); refine ev_new (T := 41) H rfl rfl ?_; intro g4_ W_ H_; (clear H; have H := H_; clear H_)) | ((with_reducible refine g_box rfl ?_); (first | refine ev_box (v := .int _ _) H rfl rfl rfl rfl ?_ | refine ev_box (v := .bool _) H rfl rfl rfl rfl ?_ | refine ev_box (v := .slice _ _ _) H rfl rfl rfl rfl ?_ | refine ev_box (v := .agg _) H rfl rfl rfl rfl ?_); intro g_ W_ H_; (clear H; have H := H_; clear H_)) | ((with_reducible refine g_alloc rfl ?_); refine ev_new H rfl rfl ?_; intro g_ W_ H_; (clear H; have H := H_; clear H_)) | ((with_reducible refine g_load rfl ?_); first | refine ev_ld1 H rfl rfl rfl ?_ | refine ev_lda H rfl rfl rfl ?_) | ((with_reducible refine g_store rfl ?_); (first | refine ev_sto (v := .int _ _) H rfl rfl rfl rfl rfl ?_ | refine ev_sto (v := .bool _) H rfl rfl rfl rfl rfl ?_ | refine ev_sto (v := .slice _ _ _) H rfl rfl rfl rfl rfl ?_ | refine ev_sto (v := .agg _) H rfl rfl rfl rfl rfl ?_); intro W_ H_; (clear H; have H := H_; clear H_)))
    have hs : RingSmall x := ⟨by omega⟩
    cases hc : x.canPut r
    · have hpl : (x.put r).list.length = x.list.length ∨ (x.put r).list.length = 0 := by
        unfold RingD.put
        unfold RingD.canPut at hc
        cases h1 : x.ok
        · exact .inr (by simp [RingD.zero])
        · rw [h1, Bool.true_and] at hc
          exact .inl (by simp [hc])
      go_upto_region 6 with (first | (go_at_call 36; (with_reducible refine (impl_RingPut x ⟨⟨A0_, c0_⟩⟩ r _ (RingIn.of (H.get (x := ringA x ⟨⟨A0_, c0_⟩⟩) (by ((repeat (first | (with_reducible exact Pick.here) | (with_reducible apply Pick.there))); done)))) hs).mono ?_); rintro e w1 ⟨qp_, rfl, kk⟩; rw [hc]; have H_ := H.call kk; simp only [List.append_eq, List.cons_append, List.nil_append] at H_; (clear H; have H := H_; clear H_); clear kk) | (go_at_call 37; (with_reducible refine (spec_RingPut x ⟨⟨A0_, c0_⟩⟩ r _ (RingIn.of (H.get (x := ringA x ⟨⟨A0_, c0_⟩⟩) (by ((repeat (first | (with_reducible exact Pick.here) | (with_reducible apply Pick.there))); done)))) hs).mono ?_); rintro e w1 ⟨qp2_, rfl, kk⟩; rw [hc]; have H_ := H.call kk; simp only [List.append_eq, List.cons_append, List.nil_append] at H_; (clear H; have H := H_; clear H_); clear kk) | ((with_reducible refine g_box rfl ?_); (first | refine ev_box (v := .int _ _) H rfl rfl rfl rfl ?_ | refine ev_box (v := .bool _) H rfl rfl rfl rfl ?_ | refine ev_box (v := .slice _ _ _) H rfl rfl rfl rfl ?_ | refine ev_box (v := .agg _) H rfl rfl rfl rfl ?_); intro g_ W_ H_; (clear H; have H := H_; clear H_)) | ((with_reducible refine g_alloc rfl ?_); refine ev_new H rfl rfl ?_; intro g_ W_ H_; (clear H; have H := H_; clear H_)) | ((with_reducible refine g_load rfl ?_); first | refine ev_ld1 H rfl rfl rfl ?_ | refine ev_lda H rfl rfl rfl ?_) | ((with_reducible refine g_store rfl ?_); (first | refine ev_sto (v := .int _ _) H rfl rfl rfl rfl rfl ?_ | refine ev_sto (v := .bool _) H rfl rfl rfl rfl rfl ?_ | refine ev_sto (v := .slice _ _ _) H rfl rfl rfl rfl rfl ?_ | refine ev_sto (v := .agg _) H rfl rfl rfl rfl rfl ?_); intro W_ H_; (clear H; have H := H_; clear H_)))
      (with_reducible refine g_draw ?_)
      try simp only [Act.put, List.setIfInBounds_toArray, List.set_cons_succ, List.set_cons_zero]
      refine F_begin (ls := #[false, false, false, false, false, false, false, false, false, false]) (by kernel_rfl) rfl (by kernel_rfl) ?_
      have H_ := H.drew
      (clear H; have H := H_; clear H_)
      refine T_go [(0, 0, 43), (0, 1, 44), (0, 2, 45), (0, 3, 46), (1, 4, 47), (1, 6, 49)] ?_; (repeat (first | (refine' T_pure _ rfl rfl (by kernel_rfl) (Nat.le_of_ble_eq_true (by kernel_rfl)) (fun w2_ K_ hK_ => ?_) ?_; rotate_left 1; focus ((conv => (arg 4; arg 1; whnf)); (repeat (first | exact hK_ rfl | go_step | go_guarded | go_upon | dsimp only)); done)) | (refine' T_read _ rfl rfl (by kernel_rfl) (Nat.le_of_ble_eq_true (by kernel_rfl)) (fun K_ hK_ => ?_) ?_; rotate_left 1; focus ((conv => (arg 4; arg 1; whnf)); (repeat (first | exact hK_ rfl | (go_big_may; (first | ((with_reducible refine g_load rfl ?_); first | refine ev_ld1 H rfl rfl rfl ?_ | refine ev_lda H rfl rfl rfl ?_))) | go_step | go_guarded | go_upon | dsimp only)); done)))); refine T_end ?_
      refine F_eff (ls' := #[true, true, true, true, true, true, true, false, false, false]) (pend' := [6]) 5 _ rfl (by kernel_rfl) (by kernel_rfl) (by kernel_rfl) (fun K_ hK_ => ?_); (conv => (arg 4; arg 1; whnf)); (repeat (first | refine hK_ _ _ rfl ?_ ?_ | (go_big_may; (first | (go_at_call 34; (with_reducible refine (impl_RingOk x ⟨⟨A0_, c0_⟩⟩ _ (RingIn.of (H.get (x := ringA x ⟨⟨A0_, c0_⟩⟩) (by ((repeat (first | (with_reducible exact Pick.here) | (with_reducible apply Pick.there))); done))))).mono ?_); rintro e w1 ⟨rfl, kb⟩; (have H_ := H.callB kb; (clear H; have H := H_; clear H_); clear kb)))) | go_step | go_guarded | go_upon | dsimp only)); (focus (refine kept_cons 6 49 _ rfl rfl (Nat.le_of_ble_eq_true (by kernel_rfl)) (fun K_ hK_ => ?_) ?_; (focus ((conv => (arg 4; arg 1; whnf)); repeat (first | exact hK_ rfl | (go_big_may; (first | ((with_reducible refine g_load rfl ?_); first | refine ev_ld1 H rfl rfl rfl ?_ | refine ev_lda H rfl rfl rfl ?_))) | go_step | go_guarded | go_upon | dsimp only))); exact kept_nil))
      refine F_eff (ls' := #[true, true, true, true, true, true, true, true, false, false]) (pend' := []) 7 _ rfl (by kernel_rfl) (by kernel_rfl) (by kernel_rfl) (fun K_ hK_ => ?_); (conv => (arg 4; arg 1; whnf)); (repeat (first | refine hK_ _ _ rfl ?_ ?_ | (go_big_may; (first | (go_at_call 38; (with_reducible refine (spec_RingOk x ⟨⟨A0_, c0_⟩⟩ _ (RingIn.of (H.get (x := ringA x ⟨⟨A0_, c0_⟩⟩) (by ((repeat (first | (with_reducible exact Pick.here) | (with_reducible apply Pick.there))); done))))).mono ?_); rintro e w1 ⟨rfl, kb⟩; (have H_ := H.callB kb; (clear H; have H := H_; clear H_); clear kb)))) | go_step | go_guarded | go_upon | dsimp only)); (focus (exact kept_nil))
      refine T_go [(0, 8, 51), (0, 9, 52)] ?_; (repeat ((refine' T_pure _ rfl rfl (by kernel_rfl) (Nat.le_of_ble_eq_true (by kernel_rfl)) (fun w2_ K_ hK_ => ?_) ?_; rotate_left 1; focus ((conv => (arg 4; arg 1; whnf)); (repeat (first | exact hK_ rfl | go_step | go_guarded | go_upon | dsimp only)); done)))); refine T_end ?_
      refine F_done (by kernel_rfl) ?_
      go_upto_region 9 with (first | (go_at_call 39; (with_reducible refine (spec_DrawRingNew A c bs _ (hb.on0 H)).mono ?_); rintro e w1 ⟨n, rfl, ⟨n0, n1⟩, kb⟩; (have H_ := H.callB kb; (clear H; have H := H_; clear H_); clear kb)) | ((with_reducible refine g_box rfl ?_); (first | refine ev_box (v := .int _ _) H rfl rfl rfl rfl ?_ | refine ev_box (v := .bool _) H rfl rfl rfl rfl ?_ | refine ev_box (v := .slice _ _ _) H rfl rfl rfl rfl ?_ | refine ev_box (v := .agg _) H rfl rfl rfl rfl ?_); intro g_ W_ H_; (clear H; have H := H_; clear H_)) | ((with_reducible refine g_alloc rfl ?_); refine ev_new H rfl rfl ?_; intro g_ W_ H_; (clear H; have H := H_; clear H_)) | ((with_reducible refine g_load rfl ?_); first | refine ev_ld1 H rfl rfl rfl ?_ | refine ev_lda H rfl rfl rfl ?_) | ((with_reducible refine g_store rfl ?_); (first | refine ev_sto (v := .int _ _) H rfl rfl rfl rfl rfl ?_ | refine ev_sto (v := .bool _) H rfl rfl rfl rfl rfl ?_ | refine ev_sto (v := .slice _ _ _) H rfl rfl rfl rfl rfl ?_ | refine ev_sto (v := .agg _) H rfl rfl rfl rfl rfl ?_); intro W_ H_; (clear H; have H := H_; clear H_)))
      go_upto_region 10 with (first | (go_at_call 40; (with_reducible refine (impl_RingNew n _).mono ?_); rintro e w1 ⟨rfl, kb⟩; (have H_ := H.callB kb; (clear H; have H := H_; clear H_); clear kb)) | ((with_reducible refine g_box rfl ?_); (first | refine ev_box (v := .int _ _) H rfl rfl rfl rfl ?_ | refine ev_box (v := .bool _) H rfl rfl rfl rfl ?_ | refine ev_box (v := .slice _ _ _) H rfl rfl rfl rfl ?_ | refine ev_box (v := .agg _) H rfl rfl rfl rfl ?_); intro g_ W_ H_; (clear H; have H := H_; clear H_)) | ((with_reducible refine g_alloc rfl ?_); refine ev_new H rfl rfl ?_; intro g_ W_ H_; (clear H; have H := H_; clear H_)) | ((with_reducible refine g_load rfl ?_); first | refine ev_ld1 H rfl rfl rfl ?_ | refine ev_lda H rfl rfl rfl ?_) | ((with_reducible refine g_store rfl ?_); (first | refine ev_sto (v := .int _ _) H rfl rfl rfl rfl rfl ?_ | refine ev_sto (v := .bool _) H rfl rfl rfl rfl rfl ?_ | refine ev_sto (v := .slice _ _ _) H rfl rfl rfl rfl rfl ?_ | refine ev_sto (v := .agg _) H rfl rfl rfl rfl rfl ?_); intro W_ H_; (clear H; have H := H_; clear H_)))
      have hn := new_three n
      generalize (RingD.mk n []).ok = fr at hn ⊢
      go_cut [11, 67] (fun f v wc => f = .bool fr ∧ v = .bool false ∧ wc = W_)
      case first =>
        rcases hn with ⟨hn1, hn2⟩ | ⟨hn1, hn3, hn2⟩ | ⟨hn1, hn3, hn2⟩
        all_goals
          go_wp2_with (fail)
          all_goals (go_meet; case rel => exact ⟨by simp [hn2], by first | (simp [hn2]; done) | (simp [hn2]; omega), rfl⟩)
      clear hn
      obtain ⟨rfl, rfl, rfl⟩ := hcut
      have hf : (((x.put r).list.length : Int) == (x.list.length : Int)) = true ∨ ((((x.put r).list.length : Int) == (x.list.length : Int)) = false ∧ (((x.put r).list.length : Int) == 0) = true) := by
        cases h : (((x.put r).list.length : Int) == (x.list.length : Int))
        · refine .inr ⟨rfl, ?_⟩
          rw [beq_eq_false_iff_ne] at h
          rw [beq_iff_eq]
          omega
        · exact .inl rfl
      clear hpl
      rcases hf with hf | ⟨hf, hf2⟩
      all_goals
        go_wp2_with (first | ((with_reducible refine g_box rfl ?_); (first | refine ev_box (v := .int _ _) H rfl rfl rfl rfl ?_ | refine ev_box (v := .bool _) H rfl rfl rfl rfl ?_ | refine ev_box (v := .slice _ _ _) H rfl rfl rfl rfl ?_ | refine ev_box (v := .agg _) H rfl rfl rfl rfl ?_); intro g_ W_ H_; (clear H; have H := H_; clear H_)) | ((with_reducible refine g_alloc rfl ?_); refine ev_new H rfl rfl ?_; intro g_ W_ H_; (clear H; have H := H_; clear H_)) | ((with_reducible refine g_load rfl ?_); first | refine ev_ld1 H rfl rfl rfl ?_ | refine ev_lda H rfl rfl rfl ?_) | ((with_reducible refine g_store rfl ?_); (first | refine ev_sto (v := .int _ _) H rfl rfl rfl rfl rfl ?_ | refine ev_sto (v := .bool _) H rfl rfl rfl rfl rfl ?_ | refine ev_sto (v := .slice _ _ _) H rfl rfl rfl rfl rfl ?_ | refine ev_sto (v := .agg _) H rfl rfl rfl rfl rfl ?_); intro W_ H_; (clear H; have H := H_; clear H_)))
        all_goals (go_ret; exact ⟨ret_b (by simp), H.below⟩)
    · have hpu : (x.push r).ok = true := by
        unfold RingD.canPut at hc
        rw [Bool.and_eq_true] at hc
        exact hc.2
      have hxo : x.ok = true := by
        unfold RingD.canPut at hc
        rw [Bool.and_eq_true] at hc
        exact hc.1
      have e0 : x.put r = D x r 0 := by unfold RingD.put; rw [if_pos hxo, if_pos hpu]; rfl
      have HP := Lib.hid hpu
      clear hpu hxo
      go_upto_region 5 with (first | (go_at_call 36; (with_reducible refine (impl_RingPut x ⟨⟨A0_, c0_⟩⟩ r _ (RingIn.of (H.get (x := ringA x ⟨⟨A0_, c0_⟩⟩) (by ((repeat (first | (with_reducible exact Pick.here) | (with_reducible apply Pick.there))); done)))) hs).mono ?_); rintro e w1 ⟨⟨⟨A1_, c1_⟩⟩, rfl, kk⟩; rw [e0] at kk; rw [e0, hc]; have H_ := H.call kk; simp only [List.append_eq, List.cons_append, List.nil_append] at H_; (clear H; have H := H_; clear H_); clear kk) | ((with_reducible refine g_alloc rfl ?_); refine ev_new (T := 38) H rfl rfl ?_; intro g5_ W_ H_; (clear H; have H := H_; clear H_)) | ((with_reducible refine g_box rfl ?_); (first | refine ev_box (v := .int _ _) H rfl rfl rfl rfl ?_ | refine ev_box (v := .bool _) H rfl rfl rfl rfl ?_ | refine ev_box (v := .slice _ _ _) H rfl rfl rfl rfl ?_ | refine ev_box (v := .agg _) H rfl rfl rfl rfl ?_); intro g_ W_ H_; (clear H; have H := H_; clear H_)) | ((with_reducible refine g_alloc rfl ?_); refine ev_new H rfl rfl ?_; intro g_ W_ H_; (clear H; have H := H_; clear H_)) | ((with_reducible refine g_load rfl ?_); first | refine ev_ld1 H rfl rfl rfl ?_ | refine ev_lda H rfl rfl rfl ?_) | ((with_reducible refine g_store rfl ?_); (first | refine ev_sto (v := .int _ _) H rfl rfl rfl rfl rfl ?_ | refine ev_sto (v := .bool _) H rfl rfl rfl rfl rfl ?_ | refine ev_sto (v := .slice _ _ _) H rfl rfl rfl rfl rfl ?_ | refine ev_sto (v := .agg _) H rfl rfl rfl rfl rfl ?_); intro W_ H_; (clear H; have H := H_; clear H_)))
      go_upto_region 6 with (first | (go_at_call 37; (with_reducible refine (spec_RingPut x ⟨⟨A0_, c0_⟩⟩ r _ (RingIn.of (H.get (x := ringA x ⟨⟨A0_, c0_⟩⟩) (by ((repeat (first | (with_reducible exact Pick.here) | (with_reducible apply Pick.there))); done)))) hs).mono ?_); rintro e w1 ⟨qp2_, rfl, kk⟩; rw [e0] at kk; rw [e0, hc]; have H_ := H.call kk; simp only [List.append_eq, List.cons_append, List.nil_append] at H_; (clear H; have H := H_; clear H_); clear kk) | ((with_reducible refine g_box rfl ?_); (first | refine ev_box (v := .int _ _) H rfl rfl rfl rfl ?_ | refine ev_box (v := .bool _) H rfl rfl rfl rfl ?_ | refine ev_box (v := .slice _ _ _) H rfl rfl rfl rfl ?_ | refine ev_box (v := .agg _) H rfl rfl rfl rfl ?_); intro g_ W_ H_; (clear H; have H := H_; clear H_)) | ((with_reducible refine g_alloc rfl ?_); refine ev_new H rfl rfl ?_; intro g_ W_ H_; (clear H; have H := H_; clear H_)) | ((with_reducible refine g_load rfl ?_); first | refine ev_ld1 H rfl rfl rfl ?_ | refine ev_lda H rfl rfl rfl ?_) | ((with_reducible refine g_store rfl ?_); (first | refine ev_sto (v := .int _ _) H rfl rfl rfl rfl rfl ?_ | refine ev_sto (v := .bool _) H rfl rfl rfl rfl rfl ?_ | refine ev_sto (v := .slice _ _ _) H rfl rfl rfl rfl rfl ?_ | refine ev_sto (v := .agg _) H rfl rfl rfl rfl rfl ?_); intro W_ H_; (clear H; have H := H_; clear H_)))
      (with_reducible refine g_draw ?_)
      try simp only [Act.put, List.setIfInBounds_toArray, List.set_cons_succ, List.set_cons_zero]
      refine F_begin (ls := #[false, false, false, false, false, false, false, false, false, false]) (by kernel_rfl) rfl (by kernel_rfl) ?_
      have H_ := H.drew
      (clear H; have H := H_; clear H_)
      refine T_go [(0, 0, 43), (0, 1, 44), (0, 2, 45), (0, 3, 46), (1, 4, 47), (1, 6, 49)] ?_; (repeat (first | (refine' T_pure _ rfl rfl (by kernel_rfl) (Nat.le_of_ble_eq_true (by kernel_rfl)) (fun w2_ K_ hK_ => ?_) ?_; rotate_left 1; focus ((conv => (arg 4; arg 1; whnf)); (repeat (first | exact hK_ rfl | go_step | go_guarded | go_upon | dsimp only)); done)) | (refine' T_read _ rfl rfl (by kernel_rfl) (Nat.le_of_ble_eq_true (by kernel_rfl)) (fun K_ hK_ => ?_) ?_; rotate_left 1; focus ((conv => (arg 4; arg 1; whnf)); (repeat (first | exact hK_ rfl | (go_big_may; (first | ((with_reducible refine g_load rfl ?_); first | refine ev_ld1 H rfl rfl rfl ?_ | refine ev_lda H rfl rfl rfl ?_))) | go_step | go_guarded | go_upon | dsimp only)); done)))); refine T_end ?_
      refine F_eff (ls' := #[true, true, true, true, true, true, true, false, false, false]) (pend' := [6]) 5 _ rfl (by kernel_rfl) (by kernel_rfl) (by kernel_rfl) (fun K_ hK_ => ?_); (conv => (arg 4; arg 1; whnf)); (repeat (first | refine hK_ _ _ rfl ?_ ?_ | (go_big_may; (first | (go_at_call 34; (with_reducible refine (impl_RingOk x ⟨⟨A0_, c0_⟩⟩ _ (RingIn.of (H.get (x := ringA x ⟨⟨A0_, c0_⟩⟩) (by ((repeat (first | (with_reducible exact Pick.here) | (with_reducible apply Pick.there))); done))))).mono ?_); rintro e w1 ⟨rfl, kb⟩; (have H_ := H.callB kb; (clear H; have H := H_; clear H_); clear kb)))) | go_step | go_guarded | go_upon | dsimp only)); (focus (refine kept_cons 6 49 _ rfl rfl (Nat.le_of_ble_eq_true (by kernel_rfl)) (fun K_ hK_ => ?_) ?_; (focus ((conv => (arg 4; arg 1; whnf)); repeat (first | exact hK_ rfl | (go_big_may; (first | ((with_reducible refine g_load rfl ?_); first | refine ev_ld1 H rfl rfl rfl ?_ | refine ev_lda H rfl rfl rfl ?_))) | go_step | go_guarded | go_upon | dsimp only))); exact kept_nil))
      refine F_eff (ls' := #[true, true, true, true, true, true, true, true, false, false]) (pend' := []) 7 _ rfl (by kernel_rfl) (by kernel_rfl) (by kernel_rfl) (fun K_ hK_ => ?_); (conv => (arg 4; arg 1; whnf)); (repeat (first | refine hK_ _ _ rfl ?_ ?_ | (go_big_may; (first | (go_at_call 38; (with_reducible refine (spec_RingOk x ⟨⟨A0_, c0_⟩⟩ _ (RingIn.of (H.get (x := ringA x ⟨⟨A0_, c0_⟩⟩) (by ((repeat (first | (with_reducible exact Pick.here) | (with_reducible apply Pick.there))); done))))).mono ?_); rintro e w1 ⟨rfl, kb⟩; (have H_ := H.callB kb; (clear H; have H := H_; clear H_); clear kb)))) | go_step | go_guarded | go_upon | dsimp only)); (focus (exact kept_nil))
      refine T_go [(0, 8, 51), (0, 9, 52)] ?_; (repeat ((refine' T_pure _ rfl rfl (by kernel_rfl) (Nat.le_of_ble_eq_true (by kernel_rfl)) (fun w2_ K_ hK_ => ?_) ?_; rotate_left 1; focus ((conv => (arg 4; arg 1; whnf)); (repeat (first | exact hK_ rfl | go_step | go_guarded | go_upon | dsimp only)); done)))); refine T_end ?_
      refine F_done (by kernel_rfl) ?_
      go_upto_region 9 with (first | (go_at_call 39; (with_reducible refine (spec_DrawRingNew A c bs _ (hb.on0 H)).mono ?_); rintro e w1 ⟨n, rfl, ⟨n0, n1⟩, kb⟩; (have H_ := H.callB kb; (clear H; have H := H_; clear H_); clear kb)) | ((with_reducible refine g_box rfl ?_); (first | refine ev_box (v := .int _ _) H rfl rfl rfl rfl ?_ | refine ev_box (v := .bool _) H rfl rfl rfl rfl ?_ | refine ev_box (v := .slice _ _ _) H rfl rfl rfl rfl ?_ | refine ev_box (v := .agg _) H rfl rfl rfl rfl ?_); intro g_ W_ H_; (clear H; have H := H_; clear H_)) | ((with_reducible refine g_alloc rfl ?_); refine ev_new H rfl rfl ?_; intro g_ W_ H_; (clear H; have H := H_; clear H_)) | ((with_reducible refine g_load rfl ?_); first | refine ev_ld1 H rfl rfl rfl ?_ | refine ev_lda H rfl rfl rfl ?_) | ((with_reducible refine g_store rfl ?_); (first | refine ev_sto (v := .int _ _) H rfl rfl rfl rfl rfl ?_ | refine ev_sto (v := .bool _) H rfl rfl rfl rfl rfl ?_ | refine ev_sto (v := .slice _ _ _) H rfl rfl rfl rfl rfl ?_ | refine ev_sto (v := .agg _) H rfl rfl rfl rfl rfl ?_); intro W_ H_; (clear H; have H := H_; clear H_)))
      go_upto_region 10 with (first | (go_at_call 40; (with_reducible refine (impl_RingNew n _).mono ?_); rintro e w1 ⟨rfl, kb⟩; (have H_ := H.callB kb; (clear H; have H := H_; clear H_); clear kb)) | ((with_reducible refine g_box rfl ?_); (first | refine ev_box (v := .int _ _) H rfl rfl rfl rfl ?_ | refine ev_box (v := .bool _) H rfl rfl rfl rfl ?_ | refine ev_box (v := .slice _ _ _) H rfl rfl rfl rfl ?_ | refine ev_box (v := .agg _) H rfl rfl rfl rfl ?_); intro g_ W_ H_; (clear H; have H := H_; clear H_)) | ((with_reducible refine g_alloc rfl ?_); refine ev_new H rfl rfl ?_; intro g_ W_ H_; (clear H; have H := H_; clear H_)) | ((with_reducible refine g_load rfl ?_); first | refine ev_ld1 H rfl rfl rfl ?_ | refine ev_lda H rfl rfl rfl ?_) | ((with_reducible refine g_store rfl ?_); (first | refine ev_sto (v := .int _ _) H rfl rfl rfl rfl rfl ?_ | refine ev_sto (v := .bool _) H rfl rfl rfl rfl rfl ?_ | refine ev_sto (v := .slice _ _ _) H rfl rfl rfl rfl rfl ?_ | refine ev_sto (v := .agg _) H rfl rfl rfl rfl rfl ?_); intro W_ H_; (clear H; have H := H_; clear H_)))
      have hn := new_three n
      generalize (RingD.mk n []).ok = fr at hn ⊢
      go_cut [11, 67] (fun f v wc => f = .bool fr ∧ v = .bool false ∧ wc = W_)
      case first =>
        rcases hn with ⟨hn1, hn2⟩ | ⟨hn1, hn3, hn2⟩ | ⟨hn1, hn3, hn2⟩
        all_goals
          go_wp2_with (fail)
          all_goals (go_meet; case rel => exact ⟨by simp [hn2], by first | (simp [hn2]; done) | (simp [hn2]; omega), rfl⟩)
      clear hn
      obtain ⟨rfl, rfl, rfl⟩ := hcut
      have H_ := H.weak (a := ringA (D x r 0) ⟨⟨A1_, c1_⟩⟩) (b := ringR (D x r 0) ⟨⟨A1_, c1_⟩⟩) (by (repeat (first | (with_reducible exact Pick.here) | (with_reducible apply Pick.there)))) (ringR_fp _ _) (fun _ => ringR_of)
      have hc1 := (RingIn.of (H.get (x := ringA (D x r 0) ⟨⟨A1_, c1_⟩⟩) (by ((repeat (first | (with_reducible exact Pick.here) | (with_reducible apply Pick.there))); done)))).list.1
      (clear H; have H := H_; clear H_)
      have HC1 := Lib.hid hc1
      clear hc1
      have hl0 : (D x r 0).list.length ≤ 1048576 := by rw [D_len]; omega
      go_wp2_with (first | ((with_reducible refine g_box rfl ?_); (first | refine ev_box (v := .int _ _) H rfl rfl rfl rfl ?_ | refine ev_box (v := .bool _) H rfl rfl rfl rfl ?_ | refine ev_box (v := .slice _ _ _) H rfl rfl rfl rfl ?_ | refine ev_box (v := .agg _) H rfl rfl rfl rfl ?_); intro g_ W_ H_; (clear H; have H := H_; clear H_)) | ((with_reducible refine g_alloc rfl ?_); refine ev_new H rfl rfl ?_; intro g_ W_ H_; (clear H; have H := H_; clear H_)) | ((with_reducible refine g_load rfl ?_); first | refine ev_ld1 H rfl rfl rfl ?_ | refine ev_lda H rfl rfl rfl ?_) | ((with_reducible refine g_store rfl ?_); (first | refine ev_sto (v := .int _ _) H rfl rfl rfl rfl rfl ?_ | refine ev_sto (v := .bool _) H rfl rfl rfl rfl rfl ?_ | refine ev_sto (v := .slice _ _ _) H rfl rfl rfl rfl rfl ?_ | refine ev_sto (v := .agg _) H rfl rfl rfl rfl rfl ?_); intro W_ H_; (clear H; have H := H_; clear H_)))
      go_loopw [12] (fun i wr => ∃ (k : Nat) (A2 : Option Addr) (c2 : Nat), k ≤ x.list.length ∧ i = .int .i64 k ∧ Hid ((D x r k).list.length ≤ c2 ∧ (D x r k).list.length ≤ 1048576) ∧ St w [] wr [ringA x ⟨⟨A0_, c0_⟩⟩, ringR (D x r k) ⟨⟨A2, c2⟩⟩, Ast.blk g3_ [.int .i64 x.cap, .slice A0_ x.list.length c0_] 38, Ast.blk g4_ [.int .i64 r.t, .int .i64 r.r, .int .i64 r.v] 41, Ast.blk g5_ [.int .i64 (D x r k).cap, .slice A2 (D x r k).list.length c2] 38]) (fun i _ => x.list.length - (intOf i).toNat)
      case atStart => exact ⟨0, A1_, c1_, Nat.zero_le _, rfl, ⟨HC1.out, hl0⟩, H.take (by (repeat (first | (with_reducible exact Picks.nil) | (with_reducible exact Pick.here) | (with_reducible apply Pick.there) | (with_reducible apply Picks.cons))))⟩
      case round =>
        clear H
        obtain ⟨k, A2, c2, hk, rfl, HL, H⟩ := hrel
        by_cases hlt : k < x.list.length
        · have eT := D_take HP.out k
          have eS := D_has HP.out (k := k) (by omega)
          have eH := D_head HP.out hlt
          obtain ⟨ad0, hA0, _⟩ := (RingIn.of (H.get (x := ringA x ⟨⟨A0_, c0_⟩⟩) (by ((repeat (first | (with_reducible exact Pick.here) | (with_reducible apply Pick.there))); done)))).list.cell (St.nil _ []) hlt
          simp only at hA0
          subst hA0
          have hle0 : x.list.length ≤ c0_ := (RingIn.of (H.get (x := ringA x ⟨⟨some ad0, c0_⟩⟩) (by ((repeat (first | (with_reducible exact Pick.here) | (with_reducible apply Pick.there))); done)))).list.1
          go_upto_region 19 with (first | (go_at_call 33; (with_reducible refine (impl_RingHead (D x r k) ⟨⟨A2, c2⟩⟩ _ (RingIn.ofR (H.get (x := ringR (D x r k) ⟨⟨A2, c2⟩⟩) (by ((repeat (first | (with_reducible exact Pick.here) | (with_reducible apply Pick.there))); done))) HL.out.1 HL.out.2)).mono ?_); rintro e w1 ⟨rfl, kb⟩; rw [eS, eH]; (have H_ := H.callB kb; (clear H; have H := H_; clear H_); clear kb)) | (go_at_call 31; (with_reducible refine (impl_RingTake (D x r k) ⟨⟨A2, c2⟩⟩ _ (RingIn.ofR (H.get (x := ringR (D x r k) ⟨⟨A2, c2⟩⟩) (by ((repeat (first | (with_reducible exact Pick.here) | (with_reducible apply Pick.there))); done))) HL.out.1 HL.out.2) ⟨HL.out.2⟩).mono ?_); rintro e w1 ⟨⟨⟨A3_, c3_⟩⟩, rfl, kk, t1_, t2_⟩; rw [eT] at kk t1_ t2_; rw [eT, eS, eH]; have H_ := H.call kk; simp only [List.append_eq, List.cons_append, List.nil_append] at H_; (clear H; have H := H_; clear H_); clear kk) | ((with_reducible refine g_box rfl ?_); (first | refine ev_box (v := .int _ _) H rfl rfl rfl rfl ?_ | refine ev_box (v := .bool _) H rfl rfl rfl rfl ?_ | refine ev_box (v := .slice _ _ _) H rfl rfl rfl rfl ?_ | refine ev_box (v := .agg _) H rfl rfl rfl rfl ?_); intro g_ W_ H_; (clear H; have H := H_; clear H_)) | ((with_reducible refine g_alloc rfl ?_); refine ev_new H rfl rfl ?_; intro g_ W_ H_; (clear H; have H := H_; clear H_)) | ((with_reducible refine g_load rfl ?_); first | refine ev_ld1 H rfl rfl rfl ?_ | refine ev_lda H rfl rfl rfl ?_) | ((with_reducible refine g_store rfl ?_); (first | refine ev_sto (v := .int _ _) H rfl rfl rfl rfl rfl ?_ | refine ev_sto (v := .bool _) H rfl rfl rfl rfl rfl ?_ | refine ev_sto (v := .slice _ _ _) H rfl rfl rfl rfl rfl ?_ | refine ev_sto (v := .agg _) H rfl rfl rfl rfl rfl ?_); intro W_ H_; (clear H; have H := H_; clear H_)))
          (with_reducible refine g_draw ?_)
          try simp only [Act.put, List.setIfInBounds_toArray, List.set_cons_succ, List.set_cons_zero]
          refine F_begin (ls := #[false, false, false, false, false, false, false, false, false, false, false, false, false, false, false, false, false, false, false, false]) (by kernel_rfl) rfl (by kernel_rfl) ?_
          have H_ := H.drew
          (clear H; have H := H_; clear H_)
          refine T_go [(0, 0, 101), (0, 1, 102), (0, 2, 103), (0, 3, 104), (0, 4, 105), (0, 5, 106), (0, 6, 107), (1, 7, 108), (1, 8, 109), (0, 9, 110), (0, 10, 111), (0, 11, 112), (1, 12, 113), (0, 13, 114), (1, 14, 115), (0, 15, 116), (0, 16, 117), (1, 17, 118), (0, 18, 119), (0, 19, 120)] ?_; (repeat (first | (refine' T_pure _ rfl rfl (by kernel_rfl) (Nat.le_of_ble_eq_true (by kernel_rfl)) (fun w2_ K_ hK_ => ?_) ?_; rotate_left 1; focus ((conv => (arg 4; arg 1; whnf)); (repeat (first | exact hK_ rfl | go_step | go_guarded | go_upon | dsimp only)); done)) | (refine' T_read _ rfl rfl (by kernel_rfl) (Nat.le_of_ble_eq_true (by kernel_rfl)) (fun K_ hK_ => ?_) ?_; rotate_left 1; focus ((conv => (arg 4; arg 1; whnf)); (repeat (first | exact hK_ rfl | (go_big_may; (first | ((with_reducible refine g_load rfl ?_); refine ev_load_in_agg (n := 3) (vs := rec1 (rdr x.list k)) rfl rfl rfl (by kernel_rfl) rfl ((RingIn.of (H.get (x := ringA x ⟨⟨some ad0, c0_⟩⟩) (by ((repeat (first | (with_reducible exact Pick.here) | (with_reducible apply Pick.there))); done)))).list.at (St.nil _ []) hlt) ?_) | ((with_reducible refine g_load rfl ?_); first | refine ev_ld1 H rfl rfl rfl ?_ | refine ev_lda H rfl rfl rfl ?_))) | go_step | go_guarded | go_upon | dsimp only)); done)))); refine T_end ?_
          refine F_done (by kernel_rfl) ?_
          go_wp2_with (first | ((with_reducible refine g_box rfl ?_); (first | refine ev_box (v := .int _ _) H rfl rfl rfl rfl ?_ | refine ev_box (v := .bool _) H rfl rfl rfl rfl ?_ | refine ev_box (v := .slice _ _ _) H rfl rfl rfl rfl ?_ | refine ev_box (v := .agg _) H rfl rfl rfl rfl ?_); intro g_ W_ H_; (clear H; have H := H_; clear H_)) | ((with_reducible refine g_alloc rfl ?_); refine ev_new H rfl rfl ?_; intro g_ W_ H_; (clear H; have H := H_; clear H_)) | ((with_reducible refine g_load rfl ?_); first | refine ev_ld1 H rfl rfl rfl ?_ | refine ev_lda H rfl rfl rfl ?_) | ((with_reducible refine g_store rfl ?_); (first | refine ev_sto (v := .int _ _) H rfl rfl rfl rfl rfl ?_ | refine ev_sto (v := .bool _) H rfl rfl rfl rfl rfl ?_ | refine ev_sto (v := .slice _ _ _) H rfl rfl rfl rfl rfl ?_ | refine ev_sto (v := .agg _) H rfl rfl rfl rfl rfl ?_); intro W_ H_; (clear H; have H := H_; clear H_)))
          go_roundw
          case rel => exact ⟨k + 1, A3_, c3_, by omega, by go_num, ⟨t1_, t2_⟩, H.take (by (repeat (first | (with_reducible exact Picks.nil) | (with_reducible exact Pick.here) | (with_reducible apply Pick.there) | (with_reducible apply Picks.cons))))⟩
          case measure => simp [intOf]; omega
        · have ek : k = x.list.length := by omega
          subst ek
          have eT := D_take HP.out x.list.length
          have eS := D_has HP.out (k := x.list.length) (by omega)
          have eH := D_last HP.out
          have eN := D_none (x := x) (r := r) (k := x.list.length + 1) (by omega)
          have EL := Lib.hid (show (D x r (x.list.length + 1)).list.length = 0 by rw [D_len]; omega)
          have eM := D_take HP.out (x.list.length + 1)
          go_wp2_with (first | (go_at_call 31; (with_reducible refine (impl_RingTake (D x r x.list.length) ⟨⟨A2, c2⟩⟩ _ (RingIn.ofR (H.get (x := ringR (D x r x.list.length) ⟨⟨A2, c2⟩⟩) (by ((repeat (first | (with_reducible exact Pick.here) | (with_reducible apply Pick.there))); done))) HL.out.1 HL.out.2) ⟨HL.out.2⟩).mono ?_); rintro e w1 ⟨⟨⟨A4_, c4_⟩⟩, rfl, kk, s1_, s2_⟩; rw [eT] at kk s1_ s2_; rw [eT, eS, eH]; have H_ := H.call kk; simp only [List.append_eq, List.cons_append, List.nil_append] at H_; (clear H; have H := H_; clear H_); clear kk) | (go_at_call 31; (with_reducible refine (impl_RingTake (D x r (x.list.length + 1)) ⟨⟨A4_, c4_⟩⟩ _ (RingIn.ofR (H.get (x := ringR (D x r (x.list.length + 1)) ⟨⟨A4_, c4_⟩⟩) (by ((repeat (first | (with_reducible exact Pick.here) | (with_reducible apply Pick.there))); done))) s1_ s2_) ⟨s2_⟩).mono ?_); rintro e w1 ⟨q6_, rfl, kk, _, _⟩; rw [eM] at kk; rw [eM, eN]; have H_ := H.call kk; simp only [List.append_eq, List.cons_append, List.nil_append] at H_; (clear H; have H := H_; clear H_); clear kk) | ((with_reducible refine g_box rfl ?_); (first | refine ev_box (v := .int _ _) H rfl rfl rfl rfl ?_ | refine ev_box (v := .bool _) H rfl rfl rfl rfl ?_ | refine ev_box (v := .slice _ _ _) H rfl rfl rfl rfl ?_ | refine ev_box (v := .agg _) H rfl rfl rfl rfl ?_); intro g_ W_ H_; (clear H; have H := H_; clear H_)) | ((with_reducible refine g_alloc rfl ?_); refine ev_new H rfl rfl ?_; intro g_ W_ H_; (clear H; have H := H_; clear H_)) | ((with_reducible refine g_load rfl ?_); first | refine ev_ld1 H rfl rfl rfl ?_ | refine ev_lda H rfl rfl rfl ?_) | ((with_reducible refine g_store rfl ?_); (first | refine ev_sto (v := .int _ _) H rfl rfl rfl rfl rfl ?_ | refine ev_sto (v := .bool _) H rfl rfl rfl rfl rfl ?_ | refine ev_sto (v := .slice _ _ _) H rfl rfl rfl rfl rfl ?_ | refine ev_sto (v := .agg _) H rfl rfl rfl rfl rfl ?_); intro W_ H_; (clear H; have H := H_; clear H_)))
          all_goals (go_ret; exact ⟨ret_b (by simp [EL.out]), H.below⟩)
end Go.Proofs.Ytolfbmdgkbbnfaa.fnRing
namespace Go.Proofs.Ytolfbmdgkbbnfaa.fnRing
open Go.ChangeShapes Go.WideShapes Go.ChangeAt Go.RowKit Go.Proofs.Ytolfbmdgkbbnfaa.K Go.Proofs.Ytolfbmdgkbbnfaa.B Go.Proofs.Ytolfbmdgkbbnfaa.C
set_option linter.unusedVariables false
theorem own : ownKnob Try.prog.godebug = none := by kernel_rfl
theorem laidOut : laidOutB Try.prog = true := by kernel_rfl
set_option maxRecDepth 100000 in
set_option maxHeartbeats 1000000 in
theorem lifted (os : Os) (started : os.Started) (H : Type) (enc : TypeId × Value → H) :
    ReturnsInHanded {} Try.checked os 6 .any (Rows.fnRingSpec.pre6 enc Try.prog Try.f6 Rows.fnRingRow.domain false) (Rows.fnRingSpec.post enc Try.prog Try.f6 false true false false) := by
  refine returnsInHanded_of_change_sized (C := Try.checked) own started (by kernel_rfl) Try.func6
    (ChangeSpec.witness6 (enc := enc) (C := Try.checked) false ⟨#[], #[.slice none 0 0], []⟩ 8 (by kernel_rfl) (by kernel_rfl) (by kernel_rfl) (by kernel_rfl)) ?_
  intro W base args ds gs before hval0 hW hcnd hsz0 _
  have hval : ∀ (j : Nat) t v, Try.f6.params[j]? = some t → args[j]? = some v → Value.okWide Try.prog W .any base t v := hval0
  have hW' := hW
  obtain ⟨p, q, hA0, hV, rfl, hfz, hnd⟩ := hW
  have hA : DataW.TrodAll enc Try.prog W 0 (fun _ => true) true Try.f6.params.toList args.toList ds p := hA0
  rw [Try.params6] at hA hval
  obtain ⟨v0, vs0, d0, ds0, p0, q0, hargs, rfl, rfl, h0, r0⟩ := trodAll_cons hA
  obtain ⟨rfl, rfl, rfl⟩ := trodAll_nil r0
  obtain rfl : args = #[v0] := by cases args; simp_all
  obtain ⟨rfl, rfl⟩ := trodVars_none hV
  have k0 := h0
  have lt0 : ∀ x ∈ p0, x.block < W.heap.size := by obtain ⟨m, hm⟩ := k0; exact DataW.trod_lt m _ _ _ hm
  obtain ⟨A0_, n0_, c0_, rfl⟩ := okWide_slice Try.underlying22 (hval 0 22 v0 rfl rfl)
  obtain ⟨m0, hm0⟩ := h0
  obtain ⟨A0, c0, l0, e0, i0⟩ := leaf_bytes Try.underlying22 Try.underlying5 (by kernel_rfl) (by simpa [Value.cells] using hm0)
  injection e0 with e0a e0b e0c
  subst e0a e0b e0c
  clear hA0 hval0 hsz0
  refine (walk W A0_ c0_ l0 i0).mono fun e W' ⟨he, bel⟩ => ?_
  subst he
  exact ⟨_, rfl, _, _, _, [], _, [], hW', trodAll_mk1 (shut_bool Try.underlying4 _), (trodAll_cons_mk (Below.trod laidOut (by kernel_rfl) (of_decide_eq_true (by kernel_rfl)) k0 bel lt0) trodAll_mk0), rfl, bel.frame _, fun h => by cases h⟩
theorem over : Rows.fnRingRow.holds Try.pinned (OpenSpec.ofChange Rows.fnRingSpec) :=
  OpenClaim.holds_of_wide 6 Try.f6 rfl rfl rfl rfl rfl rfl rfl ⟨rfl, rfl, rfl, rfl, rfl⟩ rfl rfl rfl rfl rfl (by kernel_rfl) Try.func6 (by kernel_rfl)
    (of_decide_eq_true (by kernel_rfl)) (by unfold Func.isWrapper; first | (rw [if_pos (by decide +kernel)]; kernel_rfl) | (rw [if_neg (by decide +kernel)]; exact ⟨rfl, rfl⟩))
    (fun os started H enc _ => lifted os started H enc)
theorem proved : Rows.FnRingSaid := over
end Go.Proofs.Ytolfbmdgkbbnfaa.fnRing
namespace Go.Proofs.Ytolfbmdgkbbnfaa
theorem fnRing_holds : Rows.FnRingSaid := fnRing.proved
end Go.Proofs.Ytolfbmdgkbbnfaa
