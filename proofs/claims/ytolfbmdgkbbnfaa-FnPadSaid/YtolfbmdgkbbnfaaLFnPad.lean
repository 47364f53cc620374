/- The statement FnPadSaid: eight reads of a drawn pad tell all eight bits of what was pressed when it was let go. No conditions. -/
import Derived.Test.YtolfbmdgkbbnfaaRows
import Derived.Test.YtolfbmdgkbbnfaaChecked
import Derived.Test.YtolfbmdgkbbnfaaO3
import Derived.Test.YtolfbmdgkbbnfaaDR3
import Derived.Test.YtolfbmdgkbbnfaaB2
namespace Go.Proofs.Ytolfbmdgkbbnfaa.fnPad
open Go.RowKit Go.Proofs.Ytolfbmdgkbbnfaa.K Go.Proofs.Ytolfbmdgkbbnfaa.B Go.Proofs.Ytolfbmdgkbbnfaa.C
set_option maxRecDepth 20000
set_option linter.unusedVariables false
set_option linter.unusedSimpArgs false
theorem pd1 (x : PadD) (xs : List Int) (t : Int) : x.write xs t 1 = ⟨true, padAt xs t⟩ := by simp [PadD.write]
theorem pd0 (s : Int) (xs : List Int) (t : Int) : (PadD.mk true s).write xs t 0 = ⟨false, padAt xs t⟩ := by simp [PadD.write]
theorem rdF (s : Int) (xs : List Int) (t : Int) : (PadD.mk false s).read xs t = ⟨false, s / 2⟩ := by simp [PadD.read]
theorem syF (s : Int) (xs : List Int) (t : Int) : (PadD.mk false s).says xs t = s % 2 := by simp [PadD.says]
theorem rdT (s : Int) (xs : List Int) (t : Int) : (PadD.mk true s).read xs t = ⟨true, padAt xs t⟩ := by simp [PadD.read]
theorem syT (s : Int) (xs : List Int) (t : Int) : (PadD.mk true s).says xs t = padAt xs t % 2 := by simp [PadD.says]
def pw : Nat → Int
  | 0 => 1
  | n + 1 => pw n * 2
theorem pw_tab (k : Nat) (h : k < 8) : (k = 0 ∧ pw k = 1) ∨ (k = 1 ∧ pw k = 2) ∨ (k = 2 ∧ pw k = 4) ∨ (k = 3 ∧ pw k = 8) ∨ (k = 4 ∧ pw k = 16) ∨ (k = 5 ∧ pw k = 32) ∨ (k = 6 ∧ pw k = 64) ∨ (k = 7 ∧ pw k = 128) := by
  match k, h with
  | 0, _ => exact .inl ⟨rfl, rfl⟩
  | 1, _ => exact .inr (.inl ⟨rfl, rfl⟩)
  | 2, _ => exact .inr (.inr (.inl ⟨rfl, rfl⟩))
  | 3, _ => exact .inr (.inr (.inr (.inl ⟨rfl, rfl⟩)))
  | 4, _ => exact .inr (.inr (.inr (.inr (.inl ⟨rfl, rfl⟩))))
  | 5, _ => exact .inr (.inr (.inr (.inr (.inr (.inl ⟨rfl, rfl⟩)))))
  | 6, _ => exact .inr (.inr (.inr (.inr (.inr (.inr (.inl ⟨rfl, rfl⟩))))))
  | 7, _ => exact .inr (.inr (.inr (.inr (.inr (.inr (.inr ⟨rfl, rfl⟩))))))
theorem step (P : Int) (h0 : 0 ≤ P) (h1 : P ≤ 255) (k : Nat) (h : k < 8) : (0 ≤ pw k * (P / pw k % 2) ∧ pw k * (P / pw k % 2) ≤ 128) ∧ (1 ≤ pw k ∧ pw k ≤ 128) ∧ (0 ≤ P % pw k ∧ P % pw k ≤ 127) ∧ 0 ≤ P / pw k ∧ P % pw k + pw k * (P / pw k % 2) = P % pw (k + 1) ∧ P / pw k / 2 = P / pw (k + 1) := by
  show _ ∧ _ ∧ _ ∧ _ ∧ _ = P % (pw k * 2) ∧ _ = P / (pw k * 2)
  rcases pw_tab k h with ⟨_, e⟩ | ⟨_, e⟩ | ⟨_, e⟩ | ⟨_, e⟩ | ⟨_, e⟩ | ⟨_, e⟩ | ⟨_, e⟩ | ⟨_, e⟩ <;> (rw [e]; refine ⟨⟨by omega, by omega⟩, ⟨by omega, by omega⟩, ⟨by omega, by omega⟩, by omega, by omega, by omega⟩)
set_option maxRecDepth 100000 in
set_option maxHeartbeats 8000000 in
theorem walk (w : World) (A : Option Addr) (c : Nat) (bs : List Int) (hb : InB w A c bs) : Calls Try.prog 7 #[.slice A bs.length c] w fun e w' => e = .returned (.bool true) ∧ Below w.heap.size w w' := by
  have H := St.nil w []
  have hm := hb.2.1
  by_cases hbig : 1048576 < bs.length
  · go_enter Try.func7, Try.ntmps7
    go_wp2_with (first | (go_at_call 14; (with_reducible refine (laws_big _ _ _ _ hm).mono ?_); rintro e w1 ⟨rfl, rfl⟩) | ((with_reducible refine g_box rfl ?_); (first | refine ev_box (v := .int _ _) H rfl rfl rfl rfl ?_ | refine ev_box (v := .bool _) H rfl rfl rfl rfl ?_ | refine ev_box (v := .slice _ _ _) H rfl rfl rfl rfl ?_ | refine ev_box (v := .agg _) H rfl rfl rfl rfl ?_); intro g_ W_ H_; (clear H; have H := H_; clear H_)) | ((with_reducible refine g_alloc rfl ?_); refine ev_new H rfl rfl ?_; intro g_ W_ H_; (clear H; have H := H_; clear H_)) | ((with_reducible refine g_load rfl ?_); first | refine ev_ld1 H rfl rfl rfl ?_ | refine ev_lda H rfl rfl rfl ?_) | ((with_reducible refine g_store rfl ?_); (first | refine ev_sto (v := .int _ _) H rfl rfl rfl rfl rfl ?_ | refine ev_sto (v := .bool _) H rfl rfl rfl rfl rfl ?_ | refine ev_sto (v := .slice _ _ _) H rfl rfl rfl rfl rfl ?_ | refine ev_sto (v := .agg _) H rfl rfl rfl rfl rfl ?_); intro W_ H_; (clear H; have H := H_; clear H_)))
    all_goals (go_ret; exact ⟨rfl, H.below⟩)
  · go_enter Try.func7, Try.ntmps7
    go_upto_region 5 with (first | (go_at_call 14; (with_reducible refine (laws_big _ _ _ _ hm).mono ?_); rintro e w1 ⟨rfl, rfl⟩) | (go_at_call 41; (with_reducible refine (spec_DrawPadWrite A c bs _ (hb.on0 H)).mono ?_); rintro e w1 ⟨p_, q_, xs_, t_, v_, rfl, pl_, ⟨t0_, t1_⟩, vv_, kk⟩; have H_ := H.call kk; simp only [List.append_eq, List.cons_append, List.nil_append] at H_; (clear H; have H := H_; clear H_); clear kk) | ((with_reducible refine g_box rfl ?_); (first | refine ev_box (v := .int _ _) H rfl rfl rfl rfl ?_ | refine ev_box (v := .bool _) H rfl rfl rfl rfl ?_ | refine ev_box (v := .slice _ _ _) H rfl rfl rfl rfl ?_ | refine ev_box (v := .agg _) H rfl rfl rfl rfl ?_); intro g_ W_ H_; (clear H; have H := H_; clear H_)) | ((with_reducible refine g_alloc rfl ?_); refine ev_new H rfl rfl ?_; intro g_ W_ H_; (clear H; have H := H_; clear H_)) | ((with_reducible refine g_load rfl ?_); first | refine ev_ld1 H rfl rfl rfl ?_ | refine ev_lda H rfl rfl rfl ?_) | ((with_reducible refine g_store rfl ?_); (first | refine ev_sto (v := .int _ _) H rfl rfl rfl rfl rfl ?_ | refine ev_sto (v := .bool _) H rfl rfl rfl rfl rfl ?_ | refine ev_sto (v := .slice _ _ _) H rfl rfl rfl rfl rfl ?_ | refine ev_sto (v := .agg _) H rfl rfl rfl rfl rfl ?_); intro W_ H_; (clear H; have H := H_; clear H_)) | (go_at_call 42; (with_reducible refine (impl_PadWrite ⟨_, _⟩ _ _ xs_ t_ v_ _ (InI.ofS (H.get (x := intsA q_ xs_) (by ((repeat (first | (with_reducible exact Pick.here) | (with_reducible apply Pick.there))); done)))) (by omega)).mono ?_); rintro e w1 ⟨rfl, kb⟩; (have H_ := H.callB kb; (clear H; have H := H_; clear H_); clear kb)))
    (with_reducible refine g_draw ?_)
    try simp only [Act.put, List.setIfInBounds_toArray, List.set_cons_succ, List.set_cons_zero]
    refine F_begin (ls := #[false, false, false, false, false, false, false, false, false, false, false, false, false, false]) (by kernel_rfl) rfl (by kernel_rfl) ?_
    have H_ := H.drew
    (clear H; have H := H_; clear H_)
    refine T_go [(1, 0, 32), (1, 1, 33), (0, 2, 34), (0, 3, 35), (0, 4, 36)] ?_; (repeat (first | (refine' T_pure _ rfl rfl (by kernel_rfl) (Nat.le_of_ble_eq_true (by kernel_rfl)) (fun w2_ K_ hK_ => ?_) ?_; rotate_left 1; focus ((conv => (arg 4; arg 1; whnf)); (repeat (first | exact hK_ rfl | go_step | go_guarded | go_upon | dsimp only)); done)) | (refine' T_read _ rfl rfl (by kernel_rfl) (Nat.le_of_ble_eq_true (by kernel_rfl)) (fun K_ hK_ => ?_) ?_; rotate_left 1; focus ((conv => (arg 4; arg 1; whnf)); (repeat (first | exact hK_ rfl | (go_big_may; (first | ((with_reducible refine g_load rfl ?_); first | refine ev_ld1 H rfl rfl rfl ?_ | refine ev_lda H rfl rfl rfl ?_))) | go_step | go_guarded | go_upon | dsimp only)); done)))); refine T_end ?_
    refine F_eff (ls' := #[true, true, true, true, true, true, false, false, false, false, false, false, false, false]) (pend' := [0]) 5 _ rfl (by kernel_rfl) (by kernel_rfl) (by kernel_rfl) (fun K_ hK_ => ?_); (conv => (arg 4; arg 1; whnf)); (repeat (first | refine hK_ _ _ rfl ?_ ?_ | (go_big_may; (first | (go_at_call 43; (with_reducible refine (spec_PadWrite ⟨_, _⟩ _ _ xs_ t_ v_ _ (InI.ofS (H.get (x := intsA q_ xs_) (by ((repeat (first | (with_reducible exact Pick.here) | (with_reducible apply Pick.there))); done)))) (by omega)).mono ?_); rintro e w1 ⟨rfl, kb⟩; (have H_ := H.callB kb; (clear H; have H := H_; clear H_); clear kb)))) | go_step | go_guarded | go_upon | dsimp only)); (focus (refine kept_cons 0 32 _ rfl rfl (Nat.le_of_ble_eq_true (by kernel_rfl)) (fun K_ hK_ => ?_) ?_; (focus ((conv => (arg 4; arg 1; whnf)); repeat (first | exact hK_ rfl | (go_big_may; (first | ((with_reducible refine g_load rfl ?_); first | refine ev_ld1 H rfl rfl rfl ?_ | refine ev_lda H rfl rfl rfl ?_))) | go_step | go_guarded | go_upon | dsimp only))); exact kept_nil))
    refine T_go [(0, 6, 38), (0, 7, 39), (0, 8, 40), (0, 10, 42)] ?_; (repeat ((refine' T_pure _ rfl rfl (by kernel_rfl) (Nat.le_of_ble_eq_true (by kernel_rfl)) (fun w2_ K_ hK_ => ?_) ?_; rotate_left 1; focus ((conv => (arg 4; arg 1; whnf)); (repeat (first | exact hK_ rfl | go_step | go_guarded | go_upon | dsimp only)); done)))); refine T_end ?_
    refine F_eff (ls' := #[true, true, true, true, true, true, true, true, true, true, true, false, false, false]) (pend' := []) 9 _ rfl (by kernel_rfl) (by kernel_rfl) (by kernel_rfl) (fun K_ hK_ => ?_); (conv => (arg 4; arg 1; whnf)); (repeat (first | refine hK_ _ _ rfl ?_ ?_ | (go_big_may; (first | (go_at_call 44; (with_reducible refine (impl_PadsOk _ _ xs_ _ (InI.ofS (H.get (x := intsA q_ xs_) (by ((repeat (first | (with_reducible exact Pick.here) | (with_reducible apply Pick.there))); done))))).mono ?_); rintro e w1 ⟨rfl, rfl⟩))) | go_step | go_guarded | go_upon | dsimp only)); (focus (exact kept_nil))
    refine F_eff (ls' := #[true, true, true, true, true, true, true, true, true, true, true, true, false, false]) (pend' := []) 11 _ rfl (by kernel_rfl) (by kernel_rfl) (by kernel_rfl) (fun K_ hK_ => ?_); (conv => (arg 4; arg 1; whnf)); (repeat (first | refine hK_ _ _ rfl ?_ ?_ | (go_big_may; (first | (go_at_call 45; (with_reducible refine (spec_PadsOk _ _ xs_ _ (InI.ofS (H.get (x := intsA q_ xs_) (by ((repeat (first | (with_reducible exact Pick.here) | (with_reducible apply Pick.there))); done))))).mono ?_); rintro e w1 ⟨rfl, rfl⟩))) | go_step | go_guarded | go_upon | dsimp only)); (focus (exact kept_nil))
    refine T_go [(0, 12, 44), (0, 13, 45)] ?_; (repeat ((refine' T_pure _ rfl rfl (by kernel_rfl) (Nat.le_of_ble_eq_true (by kernel_rfl)) (fun w2_ K_ hK_ => ?_) ?_; rotate_left 1; focus ((conv => (arg 4; arg 1; whnf)); (repeat (first | exact hK_ rfl | go_step | go_guarded | go_upon | dsimp only)); done)))); refine T_end ?_
    refine F_done (by kernel_rfl) ?_
    go_upto_region 11 with (first | (go_at_call 46; (with_reducible refine (spec_DrawPadAt A c bs _ (hb.on0 H)).mono ?_); rintro e w1 ⟨q2_, xs2_, t2_, rfl, pl2_, ⟨t20_, t21_⟩, kk⟩; have H_ := H.call kk; simp only [List.append_eq, List.cons_append, List.nil_append] at H_; (clear H; have H := H_; clear H_); clear kk) | (go_at_call 47; (with_reducible refine (impl_PadAt _ _ xs2_ t2_ _ (InI.ofS (H.get (x := intsA q2_ xs2_) (by ((repeat (first | (with_reducible exact Pick.here) | (with_reducible apply Pick.there))); done)))) (by omega)).mono ?_); rintro e w1 ⟨rfl, rfl⟩) | (go_at_call 48; (with_reducible refine (spec_PadAt _ _ xs2_ t2_ _ (InI.ofS (H.get (x := intsA q2_ xs2_) (by ((repeat (first | (with_reducible exact Pick.here) | (with_reducible apply Pick.there))); done)))) (by omega)).mono ?_); rintro e w1 ⟨rfl, rfl⟩) | (go_at_call 42; (with_reducible refine (impl_PadWrite ⟨_, _⟩ _ _ xs_ t_ 1 _ (InI.ofS (H.get (x := intsA q_ xs_) (by ((repeat (first | (with_reducible exact Pick.here) | (with_reducible apply Pick.there))); done)))) (by omega)).mono ?_); rintro e w1 ⟨rfl, kb⟩; simp only [pd1]; (have H_ := H.callB kb; (clear H; have H := H_; clear H_); clear kb)) | (go_at_call 42; (with_reducible refine (impl_PadWrite ⟨_, _⟩ _ _ xs_ t_ 0 _ (InI.ofS (H.get (x := intsA q_ xs_) (by ((repeat (first | (with_reducible exact Pick.here) | (with_reducible apply Pick.there))); done)))) (by omega)).mono ?_); rintro e w1 ⟨rfl, kb⟩; simp only [pd0]; (have H_ := H.callB kb; (clear H; have H := H_; clear H_); clear kb)) | ((with_reducible refine g_box rfl ?_); (first | refine ev_box (v := .int _ _) H rfl rfl rfl rfl ?_ | refine ev_box (v := .bool _) H rfl rfl rfl rfl ?_ | refine ev_box (v := .slice _ _ _) H rfl rfl rfl rfl ?_ | refine ev_box (v := .agg _) H rfl rfl rfl rfl ?_); intro g_ W_ H_; (clear H; have H := H_; clear H_)) | ((with_reducible refine g_alloc rfl ?_); refine ev_new H rfl rfl ?_; intro g_ W_ H_; (clear H; have H := H_; clear H_)) | ((with_reducible refine g_load rfl ?_); first | refine ev_ld1 H rfl rfl rfl ?_ | refine ev_lda H rfl rfl rfl ?_) | ((with_reducible refine g_store rfl ?_); (first | refine ev_sto (v := .int _ _) H rfl rfl rfl rfl rfl ?_ | refine ev_sto (v := .bool _) H rfl rfl rfl rfl rfl ?_ | refine ev_sto (v := .slice _ _ _) H rfl rfl rfl rfl rfl ?_ | refine ev_sto (v := .agg _) H rfl rfl rfl rfl rfl ?_); intro W_ H_; (clear H; have H := H_; clear H_)))
    have hpb := padAt_byte xs_ t_
    generalize hP : padAt xs_ t_ = P at *
    go_wp2
    go_loopw [11, 12, 13] (fun s b i wr => ∃ k : Nat, k ≤ 8 ∧ i = .int .i64 k ∧ s = .int .i64 (P % pw k) ∧ b = .int .i64 (pw k) ∧ St w [] wr [intsA q_ xs_, Ast.blk g_ [.bool false, .int .i64 (P / pw k)] 53]) (fun _ _ i _ => 8 - (intOf i).toNat)
    case atStart => exact ⟨0, by omega, rfl, by rw [show P % pw 0 = 0 from Int.emod_one P], rfl, by rw [show P / pw 0 = P from Int.ediv_one P]; exact H.take (by (repeat (first | (with_reducible exact Picks.nil) | (with_reducible exact Pick.here) | (with_reducible apply Pick.there) | (with_reducible apply Picks.cons))))⟩
    case round =>
      clear H
      obtain ⟨k, hk, rfl, rfl, rfl, H⟩ := hrel
      by_cases h8 : k < 8
      · obtain ⟨⟨s1, s2⟩, ⟨s3, s4⟩, ⟨s5, s6⟩, s7, s8, s9⟩ := step P hpb.1 hpb.2 k h8
        go_wp2_with (first | (go_at_call 49; (with_reducible refine (impl_PadRead ⟨_, _⟩ _ _ xs_ t_ _ (InI.ofS (H.get (x := intsA q_ xs_) (by ((repeat (first | (with_reducible exact Pick.here) | (with_reducible apply Pick.there))); done)))) (by omega)).mono ?_); rintro e w1 ⟨rfl, kb⟩; simp only [rdF, syF]; (have H_ := H.callB kb; (clear H; have H := H_; clear H_); clear kb)) | ((with_reducible refine g_box rfl ?_); (first | refine ev_box (v := .int _ _) H rfl rfl rfl rfl ?_ | refine ev_box (v := .bool _) H rfl rfl rfl rfl ?_ | refine ev_box (v := .slice _ _ _) H rfl rfl rfl rfl ?_ | refine ev_box (v := .agg _) H rfl rfl rfl rfl ?_); intro g_ W_ H_; (clear H; have H := H_; clear H_)) | ((with_reducible refine g_alloc rfl ?_); refine ev_new H rfl rfl ?_; intro g_ W_ H_; (clear H; have H := H_; clear H_)) | ((with_reducible refine g_load rfl ?_); first | refine ev_ld1 H rfl rfl rfl ?_ | refine ev_lda H rfl rfl rfl ?_) | ((with_reducible refine g_store rfl ?_); (first | refine ev_sto (v := .int _ _) H rfl rfl rfl rfl rfl ?_ | refine ev_sto (v := .bool _) H rfl rfl rfl rfl rfl ?_ | refine ev_sto (v := .slice _ _ _) H rfl rfl rfl rfl rfl ?_ | refine ev_sto (v := .agg _) H rfl rfl rfl rfl rfl ?_); intro W_ H_; (clear H; have H := H_; clear H_)))
        (try rw [s9] at H)
        go_roundw
        case rel => exact ⟨k + 1, by omega, by go_num, rfl, rfl, H.take (by (repeat (first | (with_reducible exact Picks.nil) | (with_reducible exact Pick.here) | (with_reducible apply Pick.there) | (with_reducible apply Picks.cons))))⟩
        case measure => simp [intOf]; omega
      · have e8 : k = 8 := by omega
        subst e8
        have e1 : P % pw 8 = P := by rw [show pw 8 = 256 from rfl]; omega
        have e2 : P / pw 8 = 0 := by rw [show pw 8 = 256 from rfl]; omega
        rw [e2] at H
        rw [e1]
        clear e1 e2
        go_wp2_with (first | (go_at_call 49; (with_reducible refine (impl_PadRead ⟨_, _⟩ _ _ xs_ t_ _ (InI.ofS (H.get (x := intsA q_ xs_) (by ((repeat (first | (with_reducible exact Pick.here) | (with_reducible apply Pick.there))); done)))) (by omega)).mono ?_); rintro e w1 ⟨rfl, kb⟩; simp only [rdF, syF]; (have H_ := H.callB kb; (clear H; have H := H_; clear H_); clear kb)) | (go_at_call 47; (with_reducible refine (impl_PadAt _ _ xs_ t_ _ (InI.ofS (H.get (x := intsA q_ xs_) (by ((repeat (first | (with_reducible exact Pick.here) | (with_reducible apply Pick.there))); done)))) (by omega)).mono ?_); rintro e w1 ⟨rfl, rfl⟩; rw [hP]) | ((with_reducible refine g_box rfl ?_); (first | refine ev_box (v := .int _ _) H rfl rfl rfl rfl ?_ | refine ev_box (v := .bool _) H rfl rfl rfl rfl ?_ | refine ev_box (v := .slice _ _ _) H rfl rfl rfl rfl ?_ | refine ev_box (v := .agg _) H rfl rfl rfl rfl ?_); intro g_ W_ H_; (clear H; have H := H_; clear H_)) | ((with_reducible refine g_alloc rfl ?_); refine ev_new H rfl rfl ?_; intro g_ W_ H_; (clear H; have H := H_; clear H_)) | ((with_reducible refine g_load rfl ?_); first | refine ev_ld1 H rfl rfl rfl ?_ | refine ev_lda H rfl rfl rfl ?_) | ((with_reducible refine g_store rfl ?_); (first | refine ev_sto (v := .int _ _) H rfl rfl rfl rfl rfl ?_ | refine ev_sto (v := .bool _) H rfl rfl rfl rfl rfl ?_ | refine ev_sto (v := .slice _ _ _) H rfl rfl rfl rfl rfl ?_ | refine ev_sto (v := .agg _) H rfl rfl rfl rfl rfl ?_); intro W_ H_; (clear H; have H := H_; clear H_)))
        all_goals (go_ret; exact ⟨ret_b (by simp), H.below⟩)
end Go.Proofs.Ytolfbmdgkbbnfaa.fnPad
namespace Go.Proofs.Ytolfbmdgkbbnfaa.fnPad
open Go.ChangeShapes Go.WideShapes Go.ChangeAt Go.RowKit Go.Proofs.Ytolfbmdgkbbnfaa.K Go.Proofs.Ytolfbmdgkbbnfaa.B Go.Proofs.Ytolfbmdgkbbnfaa.C
set_option linter.unusedVariables false
theorem own : ownKnob Try.prog.godebug = none := by kernel_rfl
theorem laidOut : laidOutB Try.prog = true := by kernel_rfl
set_option maxRecDepth 100000 in
set_option maxHeartbeats 1000000 in
theorem lifted (os : Os) (started : os.Started) (H : Type) (enc : TypeId × Value → H) :
    ReturnsInHanded {} Try.checked os 7 .any (Rows.fnPadSpec.pre6 enc Try.prog Try.f7 Rows.fnPadRow.domain false) (Rows.fnPadSpec.post enc Try.prog Try.f7 false true false false) := by
  refine returnsInHanded_of_change_sized (C := Try.checked) own started (by kernel_rfl) Try.func7
    (ChangeSpec.witness6 (enc := enc) (C := Try.checked) false ⟨#[], #[.slice none 0 0], []⟩ 8 (by kernel_rfl) (by kernel_rfl) (by kernel_rfl) (by kernel_rfl)) ?_
  intro W base args ds gs before hval0 hW hcnd hsz0 _
  have hval : ∀ (j : Nat) t v, Try.f7.params[j]? = some t → args[j]? = some v → Value.okWide Try.prog W .any base t v := hval0
  have hW' := hW
  obtain ⟨p, q, hA0, hV, rfl, hfz, hnd⟩ := hW
  have hA : DataW.TrodAll enc Try.prog W 0 (fun _ => true) true Try.f7.params.toList args.toList ds p := hA0
  rw [Try.params7] at hA hval
  obtain ⟨v0, vs0, d0, ds0, p0, q0, hargs, rfl, rfl, h0, r0⟩ := trodAll_cons hA
  obtain ⟨rfl, rfl, rfl⟩ := trodAll_nil r0
  obtain rfl : args = #[v0] := by cases args; simp_all
  obtain ⟨rfl, rfl⟩ := trodVars_none hV
  have k0 := h0
  have lt0 : ∀ x ∈ p0, x.block < W.heap.size := by obtain ⟨m, hm⟩ := k0; exact DataW.trod_lt m _ _ _ hm
  obtain ⟨A0_, n0_, c0_, rfl⟩ := okWide_slice Try.underlying22 (hval 0 22 v0 rfl rfl)
  obtain ⟨m0, hm0⟩ := h0
  obtain ⟨A0, c0, l0, e0, i0⟩ := leaf_bytes Try.underlying22 Try.underlying5 (by kernel_rfl) (by simpa [Value.cells] using hm0)
  injection e0 with e0a e0b e0c
  subst e0a e0b e0c
  clear hA0 hval0 hsz0
  refine (walk W A0_ c0_ l0 i0).mono fun e W' ⟨he, bel⟩ => ?_
  subst he
  exact ⟨_, rfl, _, _, _, [], _, [], hW', trodAll_mk1 (shut_bool Try.underlying4 _), (trodAll_cons_mk (Below.trod laidOut (by kernel_rfl) (of_decide_eq_true (by kernel_rfl)) k0 bel lt0) trodAll_mk0), rfl, bel.frame _, fun h => by cases h⟩
theorem over : Rows.fnPadRow.holds Try.pinned (OpenSpec.ofChange Rows.fnPadSpec) :=
  OpenClaim.holds_of_wide 7 Try.f7 rfl rfl rfl rfl rfl rfl rfl ⟨rfl, rfl, rfl, rfl, rfl⟩ rfl rfl rfl rfl rfl (by kernel_rfl) Try.func7 (by kernel_rfl)
    (of_decide_eq_true (by kernel_rfl)) (by unfold Func.isWrapper; first | (rw [if_pos (by decide +kernel)]; kernel_rfl) | (rw [if_neg (by decide +kernel)]; exact ⟨rfl, rfl⟩))
    (fun os started H enc _ => lifted os started H enc)
theorem proved : Rows.FnPadSaid := over
end Go.Proofs.Ytolfbmdgkbbnfaa.fnPad
namespace Go.Proofs.Ytolfbmdgkbbnfaa
theorem fnPad_holds : Rows.FnPadSaid := fnPad.proved
end Go.Proofs.Ytolfbmdgkbbnfaa
