/- The statement FnExactPictureCatchSaid: PictureCatch of the program tells what the reference's tells. No conditions. -/
import Derived.Test.YtodjaobmhiglcaaRows
import Derived.Test.YtodjaobmhiglcaaChecked
import Derived.Test.YtodjaobmhiglcaaO2
import Derived.Test.YtodjaobmhiglcaaX3
namespace Go.Proofs.Ytodjaobmhiglcaa.fnExactPictureCatch
open Go.RowKit Go.Proofs.Ytodjaobmhiglcaa.K Go.Proofs.Ytodjaobmhiglcaa.B Go.Proofs.Ytodjaobmhiglcaa.C
set_option maxRecDepth 20000
set_option linter.unusedVariables false
set_option linter.unusedSimpArgs false
set_option maxRecDepth 100000 in
set_option maxHeartbeats 8000000 in
theorem walk (w : World) (x : PictureD) (q0 : PictureP) (i0 : PictureIn w x q0) (m : Int) (wf1 : (Lit.int .i64 m).wf = true) : Calls Try.prog 8 #[.agg #[.int .i64 x.ppu.t, .int .i64 x.ppu.ctrl, .int .i64 x.ppu.scroll, .int .i64 x.ppu.addr, .int .i64 x.ppu.pal, .bool x.ppu.blank, .slice q0.ppu.table.A x.ppu.table.length q0.ppu.table.c, .slice q0.ppu.dots.A x.ppu.dots.length q0.ppu.dots.c, .int .i64 x.ring.cap, .slice q0.ring.list.A x.ring.list.length q0.ring.list.c, .slice q0.frames.s.A x.frames.length q0.frames.s.c], .int .i64 m] w fun e w' => e = .returned (.bool true) ∧ Below w.heap.size w w' := by
  have H := St.nil w []
  by_cases hz0 : x.sz_ ≤ 1048576
  case neg =>
    have hz : szOf 1048576 x.sz_ < 0 := by unfold szOf; omega
    go_enter Try.func8, Try.ntmps8
    go_wp2_with (first | ((with_reducible refine g_box rfl ?_); (first | refine ev_box (v := .int _ _) H rfl rfl rfl rfl ?_ | refine ev_box (v := .bool _) H rfl rfl rfl rfl ?_ | refine ev_box (v := .slice _ _ _) H rfl rfl rfl rfl ?_ | refine ev_box (v := .agg _) H rfl rfl rfl rfl ?_); intro g_ W_ H_; (clear H; have H := H_; clear H_)) | ((with_reducible refine g_alloc rfl ?_); refine ev_new H rfl rfl ?_; intro g_ W_ H_; (clear H; have H := H_; clear H_)) | ((with_reducible refine g_load rfl ?_); first | refine ev_ld1 H rfl rfl rfl ?_ | refine ev_lda H rfl rfl rfl ?_) | ((with_reducible refine g_store rfl ?_); (first | refine ev_sto (v := .int _ _) H rfl rfl rfl rfl rfl ?_ | refine ev_sto (v := .bool _) H rfl rfl rfl rfl rfl ?_ | refine ev_sto (v := .slice _ _ _) H rfl rfl rfl rfl rfl ?_ | refine ev_sto (v := .agg _) H rfl rfl rfl rfl rfl ?_); intro W_ H_; (clear H; have H := H_; clear H_)) | (go_at_call 32; (with_reducible refine (laws_szPicture x _ _ _ (i0.on H) (by omega) (by omega)).mono ?_); rintro e w1 ⟨rfl, hb⟩; (have H_ := H.callB hb; (clear H; have H := H_; clear H_); clear hb)))
    all_goals (go_ret; exact ⟨rfl, H.below⟩)
  have hz0_ : ¬ szOf 1048576 x.sz_ < 0 := by unfold szOf; omega
  have hs0 := PictureSmall.of hz0
  have hmk0 : x.mk_ ≤ 100000000 := by have hz_ := hz0; simp only [PictureD.sz_, PpuD.sz_, RingD.sz_] at hz_; simp only [PictureD.mk_, PpuD.mk_, RingD.mk_]; omega
  have hmg : (x.caught m).mk_ ≤ 100000 := PictureD.caught_mk x m
  go_enter Try.func8, Try.ntmps8
  go_wp2_with (first | ((with_reducible refine g_box rfl ?_); (first | refine ev_box (v := .int _ _) H rfl rfl rfl rfl ?_ | refine ev_box (v := .bool _) H rfl rfl rfl rfl ?_ | refine ev_box (v := .slice _ _ _) H rfl rfl rfl rfl ?_ | refine ev_box (v := .agg _) H rfl rfl rfl rfl ?_); intro g_ W_ H_; (clear H; have H := H_; clear H_)) | ((with_reducible refine g_alloc rfl ?_); refine ev_new H rfl rfl ?_; intro g_ W_ H_; (clear H; have H := H_; clear H_)) | ((with_reducible refine g_load rfl ?_); first | refine ev_ld1 H rfl rfl rfl ?_ | refine ev_lda H rfl rfl rfl ?_) | ((with_reducible refine g_store rfl ?_); (first | refine ev_sto (v := .int _ _) H rfl rfl rfl rfl rfl ?_ | refine ev_sto (v := .bool _) H rfl rfl rfl rfl rfl ?_ | refine ev_sto (v := .slice _ _ _) H rfl rfl rfl rfl rfl ?_ | refine ev_sto (v := .agg _) H rfl rfl rfl rfl rfl ?_); intro W_ H_; (clear H; have H := H_; clear H_)) | (go_at_call 32; (with_reducible refine (laws_szPicture x _ _ _ (i0.on H) (by omega) (by omega)).mono ?_); rintro e w1 ⟨rfl, hb⟩; (have H_ := H.callB hb; (clear H; have H := H_; clear H_); clear hb)) | (go_at_call 33; (with_reducible refine (laws_toPicture x _ _ (i0.on H) hs0).mono ?_); rintro e w1 ⟨qt_, rfl, kq⟩; (have H_ := H.call kq); simp only [List.cons_append, List.nil_append] at H_; (clear H; have H := H_; clear H_); clear kq) | (go_at_call 34; (with_reducible refine (laws_eqPicture x _ _ _ (PictureIn.of (H.get (by ((repeat (first | (with_reducible exact Pick.here) | (with_reducible apply Pick.there))); done)))) (PictureIn.of (H.get (by ((repeat (first | (with_reducible exact Pick.here) | (with_reducible apply Pick.there))); done))))).mono ?_); rintro e w1 ⟨rfl, hb⟩; (have H_ := H.callB hb; (clear H; have H := H_; clear H_); clear hb)) | (go_at_call 35; (with_reducible refine (laws_markPicture x _ _ _ (St.hol1 (H.weak (a := pictureA x _) (by ((repeat (first | (with_reducible exact Pick.here) | (with_reducible apply Pick.there))); done)) (pictureR_fp _ _) (fun _ => pictureR_of))) (by omega) (by omega)).mono ?_); rintro e w1 ⟨rfl, kk⟩; have H_ := (H.weak (a := pictureA x _) (by ((repeat (first | (with_reducible exact Pick.here) | (with_reducible apply Pick.there))); done)) (pictureR_fp _ _) (fun _ => pictureR_of)).up1 kk (fun b hb => hb); simp only [List.cons_append, List.nil_append] at H_; (clear H; have H := H_; clear H_); clear kk) | (go_at_call 34; (with_reducible refine (laws_eqPicture (x.caught m) _ _ _ (PictureIn.ofO (H.get (by ((repeat (first | (with_reducible exact Pick.here) | (with_reducible apply Pick.there))); done)))) (PictureIn.ofO (H.get (by ((repeat (first | (with_reducible exact Pick.here) | (with_reducible apply Pick.there))); done))))).mono ?_); rintro e w1 ⟨rfl, hb⟩; (have H_ := H.callB hb; (clear H; have H := H_; clear H_); clear hb)) | (go_at_call 35; (with_reducible refine (laws_markPicture (x.caught m) _ _ _ (St.hol1 (H.weak (a := pictureO (x.caught m) _) (by ((repeat (first | (with_reducible exact Pick.here) | (with_reducible apply Pick.there))); done)) (pictureO_fp _ _) (fun _ => pictureR_ofO))) (by omega) (by omega)).mono ?_); rintro e w1 ⟨rfl, kk⟩; have H_ := (H.weak (a := pictureO (x.caught m) _) (by ((repeat (first | (with_reducible exact Pick.here) | (with_reducible apply Pick.there))); done)) (pictureO_fp _ _) (fun _ => pictureR_ofO)).up1 kk (fun b hb => hb); simp only [List.cons_append, List.nil_append] at H_; (clear H; have H := H_; clear H_); clear kk) | (go_at_call 36; (with_reducible refine (laws_heldPicture (x.caught m) _ _ _ (H.get (by ((repeat (first | (with_reducible exact Pick.here) | (with_reducible apply Pick.there))); done))) (by omega) (by omega)).mono ?_); rintro e w1 ⟨rfl, hb⟩; (have H_ := H.callB hb; (clear H; have H := H_; clear H_); clear hb)) | (go_at_call 12; (with_reducible refine (spec_PictureCatch x _ m _ (PictureIn.of (H.get (by ((repeat (first | (with_reducible exact Pick.here) | (with_reducible apply Pick.there))); done)))) hs0).mono ?_); rintro e w1 ⟨qg_, rfl, kq⟩; (have H_ := H.call kq); simp only [List.cons_append, List.nil_append] at H_; (clear H; have H := H_; clear H_); clear kq) | (go_at_call 11; (with_reducible refine (impl_PictureCatch x _ m _ (PictureIn.of (H.get (by ((repeat (first | (with_reducible exact Pick.here) | (with_reducible apply Pick.there))); done)))) hs0).mono ?_); rintro e w1 ⟨qg_, rfl, kq⟩; (have H_ := H.call kq); simp only [List.cons_append, List.nil_append] at H_; (clear H; have H := H_; clear H_); clear kq))
  (with_reducible refine g_draw ?_)
  try simp only [Act.put, List.setIfInBounds_toArray, List.set_cons_succ, List.set_cons_zero]
  refine F_begin (ls := #[false, false, false, false, false]) (by kernel_rfl) rfl (by kernel_rfl) ?_
  have H_ := H.drew
  (clear H; have H := H_; clear H_)
  refine T_go [(1, 0, 31), (1, 1, 32)] ?_; (repeat ((refine' T_read _ rfl rfl (by kernel_rfl) (Nat.le_of_ble_eq_true (by kernel_rfl)) (fun K_ hK_ => ?_) ?_; rotate_left 1; focus ((conv => (arg 4; arg 1; whnf)); (repeat (first | exact hK_ rfl | (go_big_may; (first | ((with_reducible refine g_load rfl ?_); first | refine ev_ld1 H rfl rfl rfl ?_ | refine ev_lda H rfl rfl rfl ?_))) | go_step | go_guarded | go_upon | dsimp only)); done)))); refine T_end ?_
  refine F_eff (ls' := #[true, true, true, false, false]) (pend' := [0]) 2 _ rfl (by kernel_rfl) (by kernel_rfl) (by kernel_rfl) (fun K_ hK_ => ?_); (conv => (arg 4; arg 1; whnf)); (repeat (first | refine hK_ _ _ rfl ?_ ?_ | (go_big_may; (first | (go_at_call 33; (with_reducible refine (laws_toPicture x _ _ (i0.on H) hs0).mono ?_); rintro e w1 ⟨qt_, rfl, kq⟩; (have H_ := H.call kq); simp only [List.cons_append, List.nil_append] at H_; (clear H; have H := H_; clear H_); clear kq))) | go_step | go_guarded | go_upon | dsimp only)); (focus (refine kept_cons 0 31 _ rfl rfl (Nat.le_of_ble_eq_true (by kernel_rfl)) (fun K_ hK_ => ?_) ?_; (focus ((conv => (arg 4; arg 1; whnf)); repeat (first | exact hK_ rfl | (go_big_may; (first | ((with_reducible refine g_load rfl ?_); first | refine ev_ld1 H rfl rfl rfl ?_ | refine ev_lda H rfl rfl rfl ?_))) | go_step | go_guarded | go_upon | dsimp only))); exact kept_nil))
  refine F_eff (ls' := #[true, true, true, true, false]) (pend' := []) 3 _ rfl (by kernel_rfl) (by kernel_rfl) (by kernel_rfl) (fun K_ hK_ => ?_); (conv => (arg 4; arg 1; whnf)); (repeat (first | refine hK_ _ _ rfl ?_ ?_ | (go_big_may; (first | (go_at_call 34; (with_reducible refine (laws_eqPicture x _ _ _ (PictureIn.of (H.get (by ((repeat (first | (with_reducible exact Pick.here) | (with_reducible apply Pick.there))); done)))) (PictureIn.of (H.get (by ((repeat (first | (with_reducible exact Pick.here) | (with_reducible apply Pick.there))); done))))).mono ?_); rintro e w1 ⟨rfl, hb⟩; (have H_ := H.callB hb; (clear H; have H := H_; clear H_); clear hb)) | (go_at_call 34; (with_reducible refine (laws_eqPicture (x.caught m) _ _ _ (PictureIn.ofO (H.get (by ((repeat (first | (with_reducible exact Pick.here) | (with_reducible apply Pick.there))); done)))) (PictureIn.ofO (H.get (by ((repeat (first | (with_reducible exact Pick.here) | (with_reducible apply Pick.there))); done))))).mono ?_); rintro e w1 ⟨rfl, hb⟩; (have H_ := H.callB hb; (clear H; have H := H_; clear H_); clear hb)))) | go_step | go_guarded | go_upon | dsimp only)); (focus (exact kept_nil))
  refine T_go [(0, 4, 35)] ?_; (repeat ((refine' T_pure _ rfl rfl (by kernel_rfl) (Nat.le_of_ble_eq_true (by kernel_rfl)) (fun w2_ K_ hK_ => ?_) ?_; rotate_left 1; focus ((conv => (arg 4; arg 1; whnf)); (repeat (first | exact hK_ rfl | go_step | go_guarded | go_upon | dsimp only)); done)))); refine T_end ?_
  refine F_done (by kernel_rfl) ?_
  go_wp2_with (first | ((with_reducible refine g_box rfl ?_); (first | refine ev_box (v := .int _ _) H rfl rfl rfl rfl ?_ | refine ev_box (v := .bool _) H rfl rfl rfl rfl ?_ | refine ev_box (v := .slice _ _ _) H rfl rfl rfl rfl ?_ | refine ev_box (v := .agg _) H rfl rfl rfl rfl ?_); intro g_ W_ H_; (clear H; have H := H_; clear H_)) | ((with_reducible refine g_alloc rfl ?_); refine ev_new H rfl rfl ?_; intro g_ W_ H_; (clear H; have H := H_; clear H_)) | ((with_reducible refine g_load rfl ?_); first | refine ev_ld1 H rfl rfl rfl ?_ | refine ev_lda H rfl rfl rfl ?_) | ((with_reducible refine g_store rfl ?_); (first | refine ev_sto (v := .int _ _) H rfl rfl rfl rfl rfl ?_ | refine ev_sto (v := .bool _) H rfl rfl rfl rfl rfl ?_ | refine ev_sto (v := .slice _ _ _) H rfl rfl rfl rfl rfl ?_ | refine ev_sto (v := .agg _) H rfl rfl rfl rfl rfl ?_); intro W_ H_; (clear H; have H := H_; clear H_)) | (go_at_call 32; (with_reducible refine (laws_szPicture x _ _ _ (i0.on H) (by omega) (by omega)).mono ?_); rintro e w1 ⟨rfl, hb⟩; (have H_ := H.callB hb; (clear H; have H := H_; clear H_); clear hb)) | (go_at_call 33; (with_reducible refine (laws_toPicture x _ _ (i0.on H) hs0).mono ?_); rintro e w1 ⟨qt_, rfl, kq⟩; (have H_ := H.call kq); simp only [List.cons_append, List.nil_append] at H_; (clear H; have H := H_; clear H_); clear kq) | (go_at_call 34; (with_reducible refine (laws_eqPicture x _ _ _ (PictureIn.of (H.get (by ((repeat (first | (with_reducible exact Pick.here) | (with_reducible apply Pick.there))); done)))) (PictureIn.of (H.get (by ((repeat (first | (with_reducible exact Pick.here) | (with_reducible apply Pick.there))); done))))).mono ?_); rintro e w1 ⟨rfl, hb⟩; (have H_ := H.callB hb; (clear H; have H := H_; clear H_); clear hb)) | (go_at_call 35; (with_reducible refine (laws_markPicture x _ _ _ (St.hol1 (H.weak (a := pictureA x _) (by ((repeat (first | (with_reducible exact Pick.here) | (with_reducible apply Pick.there))); done)) (pictureR_fp _ _) (fun _ => pictureR_of))) (by omega) (by omega)).mono ?_); rintro e w1 ⟨rfl, kk⟩; have H_ := (H.weak (a := pictureA x _) (by ((repeat (first | (with_reducible exact Pick.here) | (with_reducible apply Pick.there))); done)) (pictureR_fp _ _) (fun _ => pictureR_of)).up1 kk (fun b hb => hb); simp only [List.cons_append, List.nil_append] at H_; (clear H; have H := H_; clear H_); clear kk) | (go_at_call 34; (with_reducible refine (laws_eqPicture (x.caught m) _ _ _ (PictureIn.ofO (H.get (by ((repeat (first | (with_reducible exact Pick.here) | (with_reducible apply Pick.there))); done)))) (PictureIn.ofO (H.get (by ((repeat (first | (with_reducible exact Pick.here) | (with_reducible apply Pick.there))); done))))).mono ?_); rintro e w1 ⟨rfl, hb⟩; (have H_ := H.callB hb; (clear H; have H := H_; clear H_); clear hb)) | (go_at_call 35; (with_reducible refine (laws_markPicture (x.caught m) _ _ _ (St.hol1 (H.weak (a := pictureO (x.caught m) _) (by ((repeat (first | (with_reducible exact Pick.here) | (with_reducible apply Pick.there))); done)) (pictureO_fp _ _) (fun _ => pictureR_ofO))) (by omega) (by omega)).mono ?_); rintro e w1 ⟨rfl, kk⟩; have H_ := (H.weak (a := pictureO (x.caught m) _) (by ((repeat (first | (with_reducible exact Pick.here) | (with_reducible apply Pick.there))); done)) (pictureO_fp _ _) (fun _ => pictureR_ofO)).up1 kk (fun b hb => hb); simp only [List.cons_append, List.nil_append] at H_; (clear H; have H := H_; clear H_); clear kk) | (go_at_call 36; (with_reducible refine (laws_heldPicture (x.caught m) _ _ _ (H.get (by ((repeat (first | (with_reducible exact Pick.here) | (with_reducible apply Pick.there))); done))) (by omega) (by omega)).mono ?_); rintro e w1 ⟨rfl, hb⟩; (have H_ := H.callB hb; (clear H; have H := H_; clear H_); clear hb)) | (go_at_call 12; (with_reducible refine (spec_PictureCatch x _ m _ (PictureIn.of (H.get (by ((repeat (first | (with_reducible exact Pick.here) | (with_reducible apply Pick.there))); done)))) hs0).mono ?_); rintro e w1 ⟨qg_, rfl, kq⟩; (have H_ := H.call kq); simp only [List.cons_append, List.nil_append] at H_; (clear H; have H := H_; clear H_); clear kq) | (go_at_call 11; (with_reducible refine (impl_PictureCatch x _ m _ (PictureIn.of (H.get (by ((repeat (first | (with_reducible exact Pick.here) | (with_reducible apply Pick.there))); done)))) hs0).mono ?_); rintro e w1 ⟨qg_, rfl, kq⟩; (have H_ := H.call kq); simp only [List.cons_append, List.nil_append] at H_; (clear H; have H := H_; clear H_); clear kq))
  all_goals (go_ret; exact ⟨rfl, H.below⟩)
end Go.Proofs.Ytodjaobmhiglcaa.fnExactPictureCatch
namespace Go.Proofs.Ytodjaobmhiglcaa.fnExactPictureCatch
open Go.ChangeShapes Go.WideShapes Go.ChangeAt Go.RowKit Go.Proofs.Ytodjaobmhiglcaa.K Go.Proofs.Ytodjaobmhiglcaa.B Go.Proofs.Ytodjaobmhiglcaa.C
set_option linter.unusedVariables false
theorem own : ownKnob Try.prog.godebug = none := by kernel_rfl
theorem laidOut : laidOutB Try.prog = true := by kernel_rfl
theorem flat_picture : flat Try.prog 6 63 = some [3, 3, 3, 3, 3, 4, 24, 24, 3, 51, 30] := by kernel_rfl
theorem arr_picture {cs : List Value} (h : cs.length = 11) : ∃ c0 c1 c2 c3 c4 c5 c6 c7 c8 c9 c10, cs = [c0, c1, c2, c3, c4, c5, c6, c7, c8, c9, c10] := by
  match cs, h with
  | [c0, c1, c2, c3, c4, c5, c6, c7, c8, c9, c10], _ => exact ⟨c0, c1, c2, c3, c4, c5, c6, c7, c8, c9, c10, rfl⟩
theorem flat_r : flat Try.prog 6 140 = some [3, 3, 3] := by kernel_rfl
set_option maxRecDepth 100000 in
set_option maxHeartbeats 1000000 in
theorem lifted (os : Os) (started : os.Started) (H : Type) (enc : TypeId × Value → H) :
    ReturnsInHanded {} Try.checked os 8 .any (Rows.fnExactPictureCatchSpec.pre6 enc Try.prog Try.f8 Rows.fnExactPictureCatchRow.domain false) (Rows.fnExactPictureCatchSpec.post enc Try.prog Try.f8 false true false false) := by
  refine returnsInHanded_of_change_sized (C := Try.checked) own started (by kernel_rfl) Try.func8
    (ChangeSpec.witness6 (enc := enc) (C := Try.checked) false ⟨#[], #[.agg #[.int .i64 0, .int .i64 0, .int .i64 0, .int .i64 0, .int .i64 0, .bool false, .slice none 0 0, .slice none 0 0, .int .i64 0, .slice none 0 0, .slice none 0 0], .int .i64 0], []⟩ 8 (by kernel_rfl) (by kernel_rfl) (by kernel_rfl) (by kernel_rfl)) ?_
  intro W base args ds gs before hval0 hW hcnd hsz0 _
  have hval : ∀ (j : Nat) t v, Try.f8.params[j]? = some t → args[j]? = some v → Value.okWide Try.prog W .any base t v := hval0
  have hW' := hW
  obtain ⟨p, q, hA0, hV, rfl, hfz, hnd⟩ := hW
  have hA : DataW.TrodAll enc Try.prog W 0 (fun _ => true) true Try.f8.params.toList args.toList ds p := hA0
  rw [Try.params8] at hA hval
  obtain ⟨v0, vs0, d0, ds0, p0, q0, hargs, rfl, rfl, h0, r0⟩ := trodAll_cons hA
  obtain ⟨v1, vs1, d1, ds1, p1, q1, rfl, rfl, rfl, h1, r1⟩ := trodAll_cons r0
  obtain ⟨rfl, rfl, rfl⟩ := trodAll_nil r1
  obtain rfl : args = #[v0, v1] := by cases args; simp_all
  obtain ⟨rfl, rfl⟩ := trodVars_none hV
  have k0 := h0
  have lt0 : ∀ x ∈ p0, x.block < W.heap.size := by obtain ⟨m, hm⟩ := k0; exact DataW.trod_lt m _ _ _ hm
  obtain ⟨cs0, rfl, hl0, hf0⟩ := open_flat Try.underlying63 flat_picture (by kernel_rfl) (hval 0 63 v0 rfl rfl) h0
  obtain ⟨u0_0, u0_1, u0_2, u0_3, u0_4, u0_5, u0_6, u0_7, u0_8, u0_9, u0_10, rfl⟩ := arr_picture hl0
  obtain ⟨_, _, t0_0⟩ := hf0 0 _ _ rfl rfl
  obtain ⟨x0_0, rfl, _⟩ := leaf_int Try.underlying3 t0_0
  obtain ⟨_, _, t0_1⟩ := hf0 1 _ _ rfl rfl
  obtain ⟨x0_1, rfl, _⟩ := leaf_int Try.underlying3 t0_1
  obtain ⟨_, _, t0_2⟩ := hf0 2 _ _ rfl rfl
  obtain ⟨x0_2, rfl, _⟩ := leaf_int Try.underlying3 t0_2
  obtain ⟨_, _, t0_3⟩ := hf0 3 _ _ rfl rfl
  obtain ⟨x0_3, rfl, _⟩ := leaf_int Try.underlying3 t0_3
  obtain ⟨_, _, t0_4⟩ := hf0 4 _ _ rfl rfl
  obtain ⟨x0_4, rfl, _⟩ := leaf_int Try.underlying3 t0_4
  obtain ⟨_, _, t0_5⟩ := hf0 5 _ _ rfl rfl
  obtain ⟨x0_5, rfl⟩ := leaf_bool Try.underlying4 t0_5
  obtain ⟨_, _, t0_6⟩ := hf0 6 _ _ rfl rfl
  obtain ⟨A0_6, c0_6, x0_6, rfl, i0_6, _⟩ := leaf_ints Try.underlying24 Try.underlying3 (by kernel_rfl) t0_6
  obtain ⟨_, _, t0_7⟩ := hf0 7 _ _ rfl rfl
  obtain ⟨A0_7, c0_7, x0_7, rfl, i0_7, _⟩ := leaf_ints Try.underlying24 Try.underlying3 (by kernel_rfl) t0_7
  obtain ⟨_, _, t0_8⟩ := hf0 8 _ _ rfl rfl
  obtain ⟨x0_8, rfl, _⟩ := leaf_int Try.underlying3 t0_8
  obtain ⟨_, _, t0_9⟩ := hf0 9 _ _ rfl rfl
  obtain ⟨A0_9, c0_9, x0_9, rfl, i0_9⟩ := leaf_recs Try.underlying51 flat_r Try.underlying3 (by kernel_rfl) t0_9
  obtain ⟨_, _, t0_10⟩ := hf0 10 _ _ rfl rfl
  obtain ⟨r0_10, x0_10, rfl, i0_10⟩ := leaf_rows Try.underlying30 Try.underlying24 Try.underlying3 (by kernel_rfl) (by kernel_rfl) t0_10
  obtain ⟨a1, rfl, rfl, rfl, w1⟩ := open_int Try.underlying3 (hval 1 3 v1 rfl rfl) h1
  clear hA0 hval0 hsz0
  refine (walk W ⟨⟨x0_0, x0_1, x0_2, x0_3, x0_4, x0_5, x0_6, x0_7⟩, ⟨x0_8, x0_9⟩, x0_10⟩ ⟨⟨⟨A0_6, c0_6⟩, ⟨A0_7, c0_7⟩⟩, ⟨⟨A0_9, c0_9⟩⟩, r0_10⟩ ⟨⟨i0_6, i0_7⟩, ⟨i0_9⟩, i0_10⟩ a1 w1).mono fun e W' ⟨he, bel⟩ => ?_
  subst he
  exact ⟨_, rfl, _, _, _, [], _, [], hW', trodAll_mk1 (shut_bool Try.underlying4 _), (trodAll_cons_mk (Below.trod laidOut (by kernel_rfl) (of_decide_eq_true (by kernel_rfl)) k0 bel lt0) (trodAll_cons_mk (shut_int Try.underlying3 w1) trodAll_mk0)), rfl, bel.frame _, fun h => by cases h⟩
theorem over : Rows.fnExactPictureCatchRow.holds Try.pinned (OpenSpec.ofChange Rows.fnExactPictureCatchSpec) :=
  OpenClaim.holds_of_wide 8 Try.f8 rfl rfl rfl rfl rfl rfl rfl ⟨rfl, rfl, rfl, rfl, rfl⟩ rfl rfl rfl rfl rfl (by kernel_rfl) Try.func8 (by kernel_rfl)
    (of_decide_eq_true (by kernel_rfl)) (by unfold Func.isWrapper; first | (rw [if_pos (by decide +kernel)]; kernel_rfl) | (rw [if_neg (by decide +kernel)]; exact ⟨rfl, rfl⟩))
    (fun os started H enc _ => lifted os started H enc)
theorem proved : Rows.FnExactPictureCatchSaid := over
end Go.Proofs.Ytodjaobmhiglcaa.fnExactPictureCatch
namespace Go.Proofs.Ytodjaobmhiglcaa
theorem fnExactPictureCatch_holds : Rows.FnExactPictureCatchSaid := fnExactPictureCatch.proved
end Go.Proofs.Ytodjaobmhiglcaa
