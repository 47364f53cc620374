/- The statement FnExactSoundOkSaid: SoundOk of the program tells what the reference's tells. No conditions. -/
import Derived.Test.YtndnfafplpbbkaaRows
import Derived.Test.YtndnfafplpbbkaaChecked
import Derived.Test.YtndnfafplpbbkaaO2
import Derived.Test.YtndnfafplpbbkaaU2
namespace Go.Proofs.Ytndnfafplpbbkaa.fnExactSoundOk
open Go.RowKit Go.Proofs.Ytndnfafplpbbkaa.K Go.Proofs.Ytndnfafplpbbkaa.B Go.Proofs.Ytndnfafplpbbkaa.C
set_option maxRecDepth 20000
set_option linter.unusedVariables false
set_option linter.unusedSimpArgs false
set_option maxRecDepth 100000 in
set_option maxHeartbeats 8000000 in
theorem walk (w : World) (x : SoundD) (q0 : SoundP) (i0 : SoundIn w x q0) : Calls Try.prog 8 #[.agg #[.int .i64 x.apu.t, .int .i64 x.apu.p, .int .i64 x.apu.c, .int .i64 x.apu.b, .int .i64 x.apu.l, .bool x.apu.k, .bool x.apu.i, .int .i64 x.ring.cap, .slice q0.ring.list.A x.ring.list.length q0.ring.list.c, .slice q0.samples.A x.samples.length q0.samples.c]] w fun e w' => e = .returned (.bool true) ∧ Below w.heap.size w w' := by
  have H := St.nil w []
  by_cases hz0 : x.sz_ ≤ 1048576
  case neg =>
    have hz : szOf 1048576 x.sz_ < 0 := by unfold szOf; omega
    go_enter Try.func8, Try.ntmps8
    go_wp2_with (first | ((with_reducible refine g_box rfl ?_); (first | refine ev_box (v := .int _ _) H rfl rfl rfl rfl ?_ | refine ev_box (v := .bool _) H rfl rfl rfl rfl ?_ | refine ev_box (v := .slice _ _ _) H rfl rfl rfl rfl ?_ | refine ev_box (v := .agg _) H rfl rfl rfl rfl ?_); intro g_ W_ H_; (clear H; have H := H_; clear H_)) | ((with_reducible refine g_alloc rfl ?_); refine' ev_alloc H rfl rfl ?_ ?_ ?_; rotate_left 2; (focus exact zT rfl); (focus rfl); intro g_ W_ H_; (clear H; have H := H_; clear H_)) | ((with_reducible refine g_load rfl ?_); first | (refine' ev_load_one H rfl rfl rfl ?_ ?_ ?_ ?_; rotate_left 4; (focus (repeat (first | (with_reducible exact Pick.here) | (with_reducible apply Pick.there)))); (focus exact oneT rfl); (focus rfl)) | (refine' ev_load_agg H rfl rfl rfl ?_ ?_ ?_ ?_ ?_; rotate_left 5; (focus (repeat (first | (with_reducible exact Pick.here) | (with_reducible apply Pick.there)))); (focus exact aggT rfl); (focus first | (simp only [List.take_succ_cons, List.take_zero, List.drop_succ_cons, List.drop_zero, List.cons_append, List.nil_append, Nat.reduceAdd]; rfl)); (focus rfl))) | ((with_reducible refine g_store rfl ?_); (first | refine' ev_store (v := .int _ _) H rfl rfl rfl rfl rfl ?_ ?_ ?_ ?_ ?_ ?_ ?_ | refine' ev_store (v := .bool _) H rfl rfl rfl rfl rfl ?_ ?_ ?_ ?_ ?_ ?_ ?_ | refine' ev_store (v := .slice _ _ _) H rfl rfl rfl rfl rfl ?_ ?_ ?_ ?_ ?_ ?_ ?_ | refine' ev_store (v := .agg _) H rfl rfl rfl rfl rfl ?_ ?_ ?_ ?_ ?_ ?_ ?_); rotate_left 5; (focus (repeat (first | (with_reducible exact Pick.here) | (with_reducible apply Pick.there)))); (focus exact szT rfl); (focus rfl); (focus exact Nat.le_of_ble_eq_true rfl); (focus rfl); (focus (simp only [Value.cells, List.take_succ_cons, List.take_zero, List.drop_succ_cons, List.drop_zero, List.drop_nil, List.cons_append, List.nil_append, List.append_nil, Nat.reduceAdd]; rfl)); intro W_ H_; (clear H; have H := H_; clear H_)) | (go_at_call 32; (with_reducible refine (laws_szSound x _ _ _ (i0.on H) (by omega) (by omega)).mono ?_); rintro e w1 ⟨rfl, hb⟩; (have H_ := H.callB hb; (clear H; have H := H_; clear H_); clear hb)))
    all_goals (go_ret; exact ⟨rfl, H.below⟩)
  have hz0_ : ¬ szOf 1048576 x.sz_ < 0 := by unfold szOf; omega
  have hs0 := SoundSmall.of hz0
  have hmk0 : x.mk_ ≤ 100000000 := by unfold SoundD.mk_; unfold RingD.mk_; have := hs0.ring.list; have := hs0.samples; omega
  go_enter Try.func8, Try.ntmps8
  go_wp2_with (first | ((with_reducible refine g_box rfl ?_); (first | refine ev_box (v := .int _ _) H rfl rfl rfl rfl ?_ | refine ev_box (v := .bool _) H rfl rfl rfl rfl ?_ | refine ev_box (v := .slice _ _ _) H rfl rfl rfl rfl ?_ | refine ev_box (v := .agg _) H rfl rfl rfl rfl ?_); intro g_ W_ H_; (clear H; have H := H_; clear H_)) | ((with_reducible refine g_alloc rfl ?_); refine' ev_alloc H rfl rfl ?_ ?_ ?_; rotate_left 2; (focus exact zT rfl); (focus rfl); intro g_ W_ H_; (clear H; have H := H_; clear H_)) | ((with_reducible refine g_load rfl ?_); first | (refine' ev_load_one H rfl rfl rfl ?_ ?_ ?_ ?_; rotate_left 4; (focus (repeat (first | (with_reducible exact Pick.here) | (with_reducible apply Pick.there)))); (focus exact oneT rfl); (focus rfl)) | (refine' ev_load_agg H rfl rfl rfl ?_ ?_ ?_ ?_ ?_; rotate_left 5; (focus (repeat (first | (with_reducible exact Pick.here) | (with_reducible apply Pick.there)))); (focus exact aggT rfl); (focus first | (simp only [List.take_succ_cons, List.take_zero, List.drop_succ_cons, List.drop_zero, List.cons_append, List.nil_append, Nat.reduceAdd]; rfl)); (focus rfl))) | ((with_reducible refine g_store rfl ?_); (first | refine' ev_store (v := .int _ _) H rfl rfl rfl rfl rfl ?_ ?_ ?_ ?_ ?_ ?_ ?_ | refine' ev_store (v := .bool _) H rfl rfl rfl rfl rfl ?_ ?_ ?_ ?_ ?_ ?_ ?_ | refine' ev_store (v := .slice _ _ _) H rfl rfl rfl rfl rfl ?_ ?_ ?_ ?_ ?_ ?_ ?_ | refine' ev_store (v := .agg _) H rfl rfl rfl rfl rfl ?_ ?_ ?_ ?_ ?_ ?_ ?_); rotate_left 5; (focus (repeat (first | (with_reducible exact Pick.here) | (with_reducible apply Pick.there)))); (focus exact szT rfl); (focus rfl); (focus exact Nat.le_of_ble_eq_true rfl); (focus rfl); (focus (simp only [Value.cells, List.take_succ_cons, List.take_zero, List.drop_succ_cons, List.drop_zero, List.drop_nil, List.cons_append, List.nil_append, List.append_nil, Nat.reduceAdd]; rfl)); intro W_ H_; (clear H; have H := H_; clear H_)) | (go_at_call 32; (with_reducible refine (laws_szSound x _ _ _ (i0.on H) (by omega) (by omega)).mono ?_); rintro e w1 ⟨rfl, hb⟩; (have H_ := H.callB hb; (clear H; have H := H_; clear H_); clear hb)) | (go_at_call 34; (with_reducible refine (laws_toSound x _ _ (i0.on H) hs0).mono ?_); rintro e w1 ⟨qt_, rfl, kq⟩; (have H_ := H.call kq); simp only [List.cons_append, List.nil_append] at H_; (clear H; have H := H_; clear H_); clear kq) | (go_at_call 36; (with_reducible refine (laws_eqSound x _ _ _ (SoundIn.of (H.get (by ((repeat (first | (with_reducible exact Pick.here) | (with_reducible apply Pick.there))); done)))) (SoundIn.of (H.get (by ((repeat (first | (with_reducible exact Pick.here) | (with_reducible apply Pick.there))); done))))).mono ?_); rintro e w1 ⟨rfl, hb⟩; (have H_ := H.callB hb; (clear H; have H := H_; clear H_); clear hb)) | (go_at_call 33; (with_reducible refine (spec_SoundOk x _ _ (SoundIn.of (H.get (by ((repeat (first | (with_reducible exact Pick.here) | (with_reducible apply Pick.there))); done))))).mono ?_); rintro e w1 ⟨rfl, hb⟩; (have H_ := H.callB hb; (clear H; have H := H_; clear H_); clear hb)) | (go_at_call 35; (with_reducible refine (impl_SoundOk x _ _ (SoundIn.of (H.get (by ((repeat (first | (with_reducible exact Pick.here) | (with_reducible apply Pick.there))); done))))).mono ?_); rintro e w1 ⟨rfl, hb⟩; (have H_ := H.callB hb; (clear H; have H := H_; clear H_); clear hb)))
  (with_reducible refine g_draw ?_)
  try simp only [Act.put, List.setIfInBounds_toArray, List.set_cons_succ, List.set_cons_zero]
  refine F_begin (ls := #[false, false, false, false, false]) (by kernel_rfl) rfl (by kernel_rfl) ?_
  have H_ := H.drew
  (clear H; have H := H_; clear H_)
  refine' F_read (ls' := #[true, false, false, false, false]) 0 22 _ rfl rfl (by kernel_rfl) (by kernel_rfl) (Nat.le_of_ble_eq_true (by kernel_rfl)) (fun K_ hK_ => ?_) ?_; rotate_left 1; focus ((conv => (arg 4; arg 1; whnf)); repeat (first | exact hK_ rfl | (go_big_may; (first | ((with_reducible refine g_load rfl ?_); first | (refine' ev_load_one H rfl rfl rfl ?_ ?_ ?_ ?_; rotate_left 4; (focus (repeat (first | (with_reducible exact Pick.here) | (with_reducible apply Pick.there)))); (focus exact oneT rfl); (focus rfl)) | (refine' ev_load_agg H rfl rfl rfl ?_ ?_ ?_ ?_ ?_; rotate_left 5; (focus (repeat (first | (with_reducible exact Pick.here) | (with_reducible apply Pick.there)))); (focus exact aggT rfl); (focus first | (simp only [List.take_succ_cons, List.take_zero, List.drop_succ_cons, List.drop_zero, List.cons_append, List.nil_append, Nat.reduceAdd]; rfl)); (focus rfl))))) | go_step | go_guarded | go_upon | dsimp only))
  refine' F_read (ls' := #[true, true, false, false, false]) 1 23 _ rfl rfl (by kernel_rfl) (by kernel_rfl) (Nat.le_of_ble_eq_true (by kernel_rfl)) (fun K_ hK_ => ?_) ?_; rotate_left 1; focus ((conv => (arg 4; arg 1; whnf)); repeat (first | exact hK_ rfl | (go_big_may; (first | ((with_reducible refine g_load rfl ?_); first | (refine' ev_load_one H rfl rfl rfl ?_ ?_ ?_ ?_; rotate_left 4; (focus (repeat (first | (with_reducible exact Pick.here) | (with_reducible apply Pick.there)))); (focus exact oneT rfl); (focus rfl)) | (refine' ev_load_agg H rfl rfl rfl ?_ ?_ ?_ ?_ ?_; rotate_left 5; (focus (repeat (first | (with_reducible exact Pick.here) | (with_reducible apply Pick.there)))); (focus exact aggT rfl); (focus first | (simp only [List.take_succ_cons, List.take_zero, List.drop_succ_cons, List.drop_zero, List.cons_append, List.nil_append, Nat.reduceAdd]; rfl)); (focus rfl))))) | go_step | go_guarded | go_upon | dsimp only))
  refine F_eff (ls' := #[true, true, true, false, false]) (pend' := [0]) 2 _ rfl (by kernel_rfl) (by kernel_rfl) (by kernel_rfl) (fun K_ hK_ => ?_); (conv => (arg 4; arg 1; whnf)); (repeat (first | refine hK_ _ _ rfl ?_ ?_ | (go_big_may; (first | (go_at_call 34; (with_reducible refine (laws_toSound x _ _ (i0.on H) hs0).mono ?_); rintro e w1 ⟨qt_, rfl, kq⟩; (have H_ := H.call kq); simp only [List.cons_append, List.nil_append] at H_; (clear H; have H := H_; clear H_); clear kq))) | go_step | go_guarded | go_upon | dsimp only)); (focus (refine kept_cons 0 22 _ rfl rfl (Nat.le_of_ble_eq_true (by kernel_rfl)) (fun K_ hK_ => ?_) ?_; (focus ((conv => (arg 4; arg 1; whnf)); repeat (first | exact hK_ rfl | (go_big_may; (first | ((with_reducible refine g_load rfl ?_); first | (refine' ev_load_one H rfl rfl rfl ?_ ?_ ?_ ?_; rotate_left 4; (focus (repeat (first | (with_reducible exact Pick.here) | (with_reducible apply Pick.there)))); (focus exact oneT rfl); (focus rfl)) | (refine' ev_load_agg H rfl rfl rfl ?_ ?_ ?_ ?_ ?_; rotate_left 5; (focus (repeat (first | (with_reducible exact Pick.here) | (with_reducible apply Pick.there)))); (focus exact aggT rfl); (focus first | (simp only [List.take_succ_cons, List.take_zero, List.drop_succ_cons, List.drop_zero, List.cons_append, List.nil_append, Nat.reduceAdd]; rfl)); (focus rfl))))) | go_step | go_guarded | go_upon | dsimp only))); exact kept_nil))
  refine F_eff (ls' := #[true, true, true, true, false]) (pend' := []) 3 _ rfl (by kernel_rfl) (by kernel_rfl) (by kernel_rfl) (fun K_ hK_ => ?_); (conv => (arg 4; arg 1; whnf)); (repeat (first | refine hK_ _ _ rfl ?_ ?_ | (go_big_may; (first | (go_at_call 36; (with_reducible refine (laws_eqSound x _ _ _ (SoundIn.of (H.get (by ((repeat (first | (with_reducible exact Pick.here) | (with_reducible apply Pick.there))); done)))) (SoundIn.of (H.get (by ((repeat (first | (with_reducible exact Pick.here) | (with_reducible apply Pick.there))); done))))).mono ?_); rintro e w1 ⟨rfl, hb⟩; (have H_ := H.callB hb; (clear H; have H := H_; clear H_); clear hb)))) | go_step | go_guarded | go_upon | dsimp only)); (focus (exact kept_nil))
  refine' F_pure (ls' := #[true, true, true, true, true]) 4 26 _ rfl rfl (by kernel_rfl) (by kernel_rfl) (Nat.le_of_ble_eq_true (by kernel_rfl)) (fun w2_ K_ hK_ => ?_) ?_; rotate_left 1; focus ((conv => (arg 4; arg 1; whnf)); repeat (first | exact hK_ rfl | go_step | go_guarded | go_upon | dsimp only))
  refine F_done (by kernel_rfl) ?_
  go_wp2_with (first | ((with_reducible refine g_box rfl ?_); (first | refine ev_box (v := .int _ _) H rfl rfl rfl rfl ?_ | refine ev_box (v := .bool _) H rfl rfl rfl rfl ?_ | refine ev_box (v := .slice _ _ _) H rfl rfl rfl rfl ?_ | refine ev_box (v := .agg _) H rfl rfl rfl rfl ?_); intro g_ W_ H_; (clear H; have H := H_; clear H_)) | ((with_reducible refine g_alloc rfl ?_); refine' ev_alloc H rfl rfl ?_ ?_ ?_; rotate_left 2; (focus exact zT rfl); (focus rfl); intro g_ W_ H_; (clear H; have H := H_; clear H_)) | ((with_reducible refine g_load rfl ?_); first | (refine' ev_load_one H rfl rfl rfl ?_ ?_ ?_ ?_; rotate_left 4; (focus (repeat (first | (with_reducible exact Pick.here) | (with_reducible apply Pick.there)))); (focus exact oneT rfl); (focus rfl)) | (refine' ev_load_agg H rfl rfl rfl ?_ ?_ ?_ ?_ ?_; rotate_left 5; (focus (repeat (first | (with_reducible exact Pick.here) | (with_reducible apply Pick.there)))); (focus exact aggT rfl); (focus first | (simp only [List.take_succ_cons, List.take_zero, List.drop_succ_cons, List.drop_zero, List.cons_append, List.nil_append, Nat.reduceAdd]; rfl)); (focus rfl))) | ((with_reducible refine g_store rfl ?_); (first | refine' ev_store (v := .int _ _) H rfl rfl rfl rfl rfl ?_ ?_ ?_ ?_ ?_ ?_ ?_ | refine' ev_store (v := .bool _) H rfl rfl rfl rfl rfl ?_ ?_ ?_ ?_ ?_ ?_ ?_ | refine' ev_store (v := .slice _ _ _) H rfl rfl rfl rfl rfl ?_ ?_ ?_ ?_ ?_ ?_ ?_ | refine' ev_store (v := .agg _) H rfl rfl rfl rfl rfl ?_ ?_ ?_ ?_ ?_ ?_ ?_); rotate_left 5; (focus (repeat (first | (with_reducible exact Pick.here) | (with_reducible apply Pick.there)))); (focus exact szT rfl); (focus rfl); (focus exact Nat.le_of_ble_eq_true rfl); (focus rfl); (focus (simp only [Value.cells, List.take_succ_cons, List.take_zero, List.drop_succ_cons, List.drop_zero, List.drop_nil, List.cons_append, List.nil_append, List.append_nil, Nat.reduceAdd]; rfl)); intro W_ H_; (clear H; have H := H_; clear H_)) | (go_at_call 32; (with_reducible refine (laws_szSound x _ _ _ (i0.on H) (by omega) (by omega)).mono ?_); rintro e w1 ⟨rfl, hb⟩; (have H_ := H.callB hb; (clear H; have H := H_; clear H_); clear hb)) | (go_at_call 34; (with_reducible refine (laws_toSound x _ _ (i0.on H) hs0).mono ?_); rintro e w1 ⟨qt_, rfl, kq⟩; (have H_ := H.call kq); simp only [List.cons_append, List.nil_append] at H_; (clear H; have H := H_; clear H_); clear kq) | (go_at_call 36; (with_reducible refine (laws_eqSound x _ _ _ (SoundIn.of (H.get (by ((repeat (first | (with_reducible exact Pick.here) | (with_reducible apply Pick.there))); done)))) (SoundIn.of (H.get (by ((repeat (first | (with_reducible exact Pick.here) | (with_reducible apply Pick.there))); done))))).mono ?_); rintro e w1 ⟨rfl, hb⟩; (have H_ := H.callB hb; (clear H; have H := H_; clear H_); clear hb)) | (go_at_call 33; (with_reducible refine (spec_SoundOk x _ _ (SoundIn.of (H.get (by ((repeat (first | (with_reducible exact Pick.here) | (with_reducible apply Pick.there))); done))))).mono ?_); rintro e w1 ⟨rfl, hb⟩; (have H_ := H.callB hb; (clear H; have H := H_; clear H_); clear hb)) | (go_at_call 35; (with_reducible refine (impl_SoundOk x _ _ (SoundIn.of (H.get (by ((repeat (first | (with_reducible exact Pick.here) | (with_reducible apply Pick.there))); done))))).mono ?_); rintro e w1 ⟨rfl, hb⟩; (have H_ := H.callB hb; (clear H; have H := H_; clear H_); clear hb)))
  all_goals (go_ret; exact ⟨rfl, H.below⟩)
end Go.Proofs.Ytndnfafplpbbkaa.fnExactSoundOk
namespace Go.Proofs.Ytndnfafplpbbkaa.fnExactSoundOk
open Go.ChangeShapes Go.WideShapes Go.ChangeAt Go.RowKit Go.Proofs.Ytndnfafplpbbkaa.K Go.Proofs.Ytndnfafplpbbkaa.B Go.Proofs.Ytndnfafplpbbkaa.C
set_option linter.unusedVariables false
theorem own : ownKnob Try.prog.godebug = none := by kernel_rfl
theorem laidOut : laidOutB Try.prog = true := by kernel_rfl
theorem flat_sound : flat Try.prog 6 52 = some [3, 3, 3, 3, 3, 4, 4, 3, 22, 50] := by kernel_rfl
theorem arr_sound {cs : List Value} (h : cs.length = 10) : ∃ c0 c1 c2 c3 c4 c5 c6 c7 c8 c9, cs = [c0, c1, c2, c3, c4, c5, c6, c7, c8, c9] := by
  match cs, h with
  | [c0, c1, c2, c3, c4, c5, c6, c7, c8, c9], _ => exact ⟨c0, c1, c2, c3, c4, c5, c6, c7, c8, c9, rfl⟩
theorem flat_r : flat Try.prog 6 42 = some [3, 3, 3] := by kernel_rfl
set_option maxRecDepth 100000 in
set_option maxHeartbeats 1000000 in
theorem lifted (os : Os) (started : os.Started) (H : Type) (enc : TypeId × Value → H) :
    ReturnsInHanded {} Try.checked os 8 .any (Rows.fnExactSoundOkSpec.pre6 enc Try.prog Try.f8 Rows.fnExactSoundOkRow.domain false) (Rows.fnExactSoundOkSpec.post enc Try.prog Try.f8 false true false false) := by
  refine returnsInHanded_of_change_sized (C := Try.checked) own started (by kernel_rfl) Try.func8
    (ChangeSpec.witness6 (enc := enc) (C := Try.checked) false ⟨#[], #[.agg #[.int .i64 0, .int .i64 0, .int .i64 0, .int .i64 0, .int .i64 0, .bool false, .bool false, .int .i64 0, .slice none 0 0, .slice none 0 0]], []⟩ 8 (by kernel_rfl) (by kernel_rfl) (by kernel_rfl) (by kernel_rfl)) ?_
  intro W base args ds gs before hval0 hW hcnd hsz0 _
  have hval : ∀ (j : Nat) t v, Try.f8.params[j]? = some t → args[j]? = some v → Value.okWide Try.prog W .any base t v := hval0
  have hW' := hW
  obtain ⟨p, q, hA0, hV, rfl, hfz, hnd⟩ := hW
  have hA : DataW.TrodAll enc Try.prog W 0 (fun _ => true) true Try.f8.params.toList args.toList ds p := hA0
  rw [Try.params8] at hA hval
  obtain ⟨v0, vs0, d0, ds0, p0, q0, hargs, rfl, rfl, h0, r0⟩ := trodAll_cons hA
  obtain ⟨rfl, rfl, rfl⟩ := trodAll_nil r0
  obtain rfl : args = #[v0] := by cases args; simp_all
  obtain ⟨rfl, rfl⟩ := trodVars_none hV
  have k0 := h0
  have lt0 : ∀ x ∈ p0, x.block < W.heap.size := by obtain ⟨m, hm⟩ := k0; exact DataW.trod_lt m _ _ _ hm
  obtain ⟨cs0, rfl, hl0, hf0⟩ := open_flat Try.underlying52 flat_sound (by kernel_rfl) (hval 0 52 v0 rfl rfl) h0
  obtain ⟨u0_0, u0_1, u0_2, u0_3, u0_4, u0_5, u0_6, u0_7, u0_8, u0_9, rfl⟩ := arr_sound hl0
  obtain ⟨_, _, t0_0⟩ := hf0 0 _ _ rfl rfl
  obtain ⟨x0_0, rfl, _⟩ := leaf_int Try.underlying3 t0_0
  obtain ⟨_, _, t0_1⟩ := hf0 1 _ _ rfl rfl
  obtain ⟨x0_1, rfl, _⟩ := leaf_int Try.underlying3 t0_1
  obtain ⟨_, _, t0_2⟩ := hf0 2 _ _ rfl rfl
  obtain ⟨x0_2, rfl, _⟩ := leaf_int Try.underlying3 t0_2
  obtain ⟨_, _, t0_3⟩ := hf0 3 _ _ rfl rfl
  obtain ⟨x0_3, rfl, _⟩ := leaf_int Try.underlying3 t0_3
  obtain ⟨_, _, t0_4⟩ := hf0 4 _ _ rfl rfl
  obtain ⟨x0_4, rfl, _⟩ := leaf_int Try.underlying3 t0_4
  obtain ⟨_, _, t0_5⟩ := hf0 5 _ _ rfl rfl
  obtain ⟨x0_5, rfl⟩ := leaf_bool Try.underlying4 t0_5
  obtain ⟨_, _, t0_6⟩ := hf0 6 _ _ rfl rfl
  obtain ⟨x0_6, rfl⟩ := leaf_bool Try.underlying4 t0_6
  obtain ⟨_, _, t0_7⟩ := hf0 7 _ _ rfl rfl
  obtain ⟨x0_7, rfl, _⟩ := leaf_int Try.underlying3 t0_7
  obtain ⟨_, _, t0_8⟩ := hf0 8 _ _ rfl rfl
  obtain ⟨A0_8, c0_8, x0_8, rfl, i0_8⟩ := leaf_recs Try.underlying22 flat_r Try.underlying3 (by kernel_rfl) t0_8
  obtain ⟨_, _, t0_9⟩ := hf0 9 _ _ rfl rfl
  obtain ⟨A0_9, c0_9, x0_9, rfl, i0_9, _⟩ := leaf_ints Try.underlying50 Try.underlying3 (by kernel_rfl) t0_9
  clear hA0 hval0 hsz0
  refine (walk W ⟨⟨x0_0, x0_1, x0_2, x0_3, x0_4, x0_5, x0_6⟩, ⟨x0_7, x0_8⟩, x0_9⟩ ⟨⟨⟨A0_8, c0_8⟩⟩, ⟨A0_9, c0_9⟩⟩ ⟨⟨i0_8⟩, i0_9⟩).mono fun e W' ⟨he, bel⟩ => ?_
  subst he
  exact ⟨_, rfl, _, _, _, [], _, [], hW', trodAll_mk1 (shut_bool Try.underlying4 _), (trodAll_cons_mk (Below.trod laidOut (by kernel_rfl) (of_decide_eq_true (by kernel_rfl)) k0 bel lt0) trodAll_mk0), rfl, bel.frame _, fun h => by cases h⟩
theorem over : Rows.fnExactSoundOkRow.holds Try.pinned (OpenSpec.ofChange Rows.fnExactSoundOkSpec) :=
  OpenClaim.holds_of_wide 8 Try.f8 rfl rfl rfl rfl rfl rfl rfl ⟨rfl, rfl, rfl, rfl, rfl⟩ rfl rfl rfl rfl rfl (by kernel_rfl) Try.func8 (by kernel_rfl)
    (of_decide_eq_true (by kernel_rfl)) (by unfold Func.isWrapper; first | (rw [if_pos (by decide +kernel)]; kernel_rfl) | (rw [if_neg (by decide +kernel)]; exact ⟨rfl, rfl⟩))
    (fun os started H enc _ => lifted os started H enc)
theorem proved : Rows.FnExactSoundOkSaid := over
end Go.Proofs.Ytndnfafplpbbkaa.fnExactSoundOk
namespace Go.Proofs.Ytndnfafplpbbkaa
theorem fnExactSoundOk_holds : Rows.FnExactSoundOkSaid := fnExactSoundOk.proved
end Go.Proofs.Ytndnfafplpbbkaa
