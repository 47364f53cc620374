/- The statement FnExactPadReadSaid: PadRead of the program tells what the reference's tells. No conditions. -/
import Derived.Test.YtdgbcgbpmhkkjaaRows
import Derived.Test.YtdgbcgbpmhkkjaaChecked
import Derived.Test.YtdgbcgbpmhkkjaaO
import Derived.Test.YtdgbcgbpmhkkjaaB2
namespace Go.Proofs.Ytdgbcgbpmhkkjaa.fnExactPadRead
open Go.RowKit Go.Proofs.Ytdgbcgbpmhkkjaa.K Go.Proofs.Ytdgbcgbpmhkkjaa.B
set_option linter.unusedVariables false
set_option linter.unusedSimpArgs false
set_option maxRecDepth 100000 in
set_option maxHeartbeats 4000000 in
theorem walk (w : World) (x : PadD) (A1 : Option Addr) (c1 : Nat) (xs : List Int) (i1 : InI w A1 c1 xs) (t : Int) (wf2 : (Lit.int .i64 t).wf = true) : Calls Try.prog 13 #[.agg #[.bool x.h, .int .i64 x.s], .slice A1 xs.length c1, .int .i64 t] w fun e w' => e = .returned (.bool true) ∧ Below w.heap.size w w' := by
  have H := St.nil w []
  by_cases hs1 : xs.length ≤ 1048576
  case neg =>
    go_enter Try.func13, Try.ntmps13
    go_wp2_with (first | ((with_reducible refine g_box rfl ?_); (first | refine ev_box (v := .int _ _) H rfl rfl rfl rfl ?_ | refine ev_box (v := .bool _) H rfl rfl rfl rfl ?_ | refine ev_box (v := .slice _ _ _) H rfl rfl rfl rfl ?_ | refine ev_box (v := .agg _) H rfl rfl rfl rfl ?_); intro g_ W_ H_; (clear H; have H := H_; clear H_)) | ((with_reducible refine g_alloc rfl ?_); refine' ev_alloc H rfl rfl ?_ ?_ ?_; rotate_left 2; (focus first | exact z_int | exact z_bool | exact z_ints | exact z_impl_Apu | exact z_impl_Pad | exact z_laws_Apu | exact z_laws_Pad); (focus rfl); intro g_ W_ H_; (clear H; have H := H_; clear H_)) | ((with_reducible refine g_load rfl ?_); first | (refine' ev_load_one H rfl rfl rfl ?_ ?_ ?_ ?_; rotate_left 4; (focus (repeat (first | (with_reducible exact Pick.here) | (with_reducible apply Pick.there)))); (focus first | exact one_int | exact one_bool | exact one_ints); (focus rfl)) | (refine' ev_load_agg H rfl rfl rfl ?_ ?_ ?_ ?_ ?_; rotate_left 5; (focus (repeat (first | (with_reducible exact Pick.here) | (with_reducible apply Pick.there)))); (focus first | exact agg_impl_Apu | exact agg_impl_Pad | exact agg_laws_Apu | exact agg_laws_Pad); (focus first | (simp only [List.take_succ_cons, List.take_zero, List.drop_succ_cons, List.drop_zero, List.cons_append, List.nil_append, Nat.reduceAdd]; rfl)); (focus rfl))) | ((with_reducible refine g_store rfl ?_); (first | refine' ev_store (v := .int _ _) H rfl rfl rfl rfl rfl ?_ ?_ ?_ ?_ ?_ ?_ ?_ | refine' ev_store (v := .bool _) H rfl rfl rfl rfl rfl ?_ ?_ ?_ ?_ ?_ ?_ ?_ | refine' ev_store (v := .slice _ _ _) H rfl rfl rfl rfl rfl ?_ ?_ ?_ ?_ ?_ ?_ ?_ | refine' ev_store (v := .agg _) H rfl rfl rfl rfl rfl ?_ ?_ ?_ ?_ ?_ ?_ ?_); rotate_left 5; (focus (repeat (first | (with_reducible exact Pick.here) | (with_reducible apply Pick.there)))); (focus first | exact sz_int | exact sz_bool | exact sz_ints | exact sz_impl_Apu | exact sz_impl_Pad | exact sz_laws_Apu | exact sz_laws_Pad); (focus rfl); (focus exact Nat.le_of_ble_eq_true rfl); (focus rfl); (focus (simp only [Value.cells, List.take_succ_cons, List.take_zero, List.drop_succ_cons, List.drop_zero, List.drop_nil, List.cons_append, List.nil_append, List.append_nil, Nat.reduceAdd]; rfl)); intro W_ H_; (clear H; have H := H_; clear H_)))
    all_goals (go_ret; exact ⟨rfl, H.below⟩)
  go_enter Try.func13, Try.ntmps13
  go_wp2_with (first | ((with_reducible refine g_box rfl ?_); (first | refine ev_box (v := .int _ _) H rfl rfl rfl rfl ?_ | refine ev_box (v := .bool _) H rfl rfl rfl rfl ?_ | refine ev_box (v := .slice _ _ _) H rfl rfl rfl rfl ?_ | refine ev_box (v := .agg _) H rfl rfl rfl rfl ?_); intro g_ W_ H_; (clear H; have H := H_; clear H_)) | ((with_reducible refine g_alloc rfl ?_); refine' ev_alloc H rfl rfl ?_ ?_ ?_; rotate_left 2; (focus first | exact z_int | exact z_bool | exact z_ints | exact z_impl_Apu | exact z_impl_Pad | exact z_laws_Apu | exact z_laws_Pad); (focus rfl); intro g_ W_ H_; (clear H; have H := H_; clear H_)) | ((with_reducible refine g_load rfl ?_); first | (refine' ev_load_one H rfl rfl rfl ?_ ?_ ?_ ?_; rotate_left 4; (focus (repeat (first | (with_reducible exact Pick.here) | (with_reducible apply Pick.there)))); (focus first | exact one_int | exact one_bool | exact one_ints); (focus rfl)) | (refine' ev_load_agg H rfl rfl rfl ?_ ?_ ?_ ?_ ?_; rotate_left 5; (focus (repeat (first | (with_reducible exact Pick.here) | (with_reducible apply Pick.there)))); (focus first | exact agg_impl_Apu | exact agg_impl_Pad | exact agg_laws_Apu | exact agg_laws_Pad); (focus first | (simp only [List.take_succ_cons, List.take_zero, List.drop_succ_cons, List.drop_zero, List.cons_append, List.nil_append, Nat.reduceAdd]; rfl)); (focus rfl))) | ((with_reducible refine g_store rfl ?_); (first | refine' ev_store (v := .int _ _) H rfl rfl rfl rfl rfl ?_ ?_ ?_ ?_ ?_ ?_ ?_ | refine' ev_store (v := .bool _) H rfl rfl rfl rfl rfl ?_ ?_ ?_ ?_ ?_ ?_ ?_ | refine' ev_store (v := .slice _ _ _) H rfl rfl rfl rfl rfl ?_ ?_ ?_ ?_ ?_ ?_ ?_ | refine' ev_store (v := .agg _) H rfl rfl rfl rfl rfl ?_ ?_ ?_ ?_ ?_ ?_ ?_); rotate_left 5; (focus (repeat (first | (with_reducible exact Pick.here) | (with_reducible apply Pick.there)))); (focus first | exact sz_int | exact sz_bool | exact sz_ints | exact sz_impl_Apu | exact sz_impl_Pad | exact sz_laws_Apu | exact sz_laws_Pad); (focus rfl); (focus exact Nat.le_of_ble_eq_true rfl); (focus rfl); (focus (simp only [Value.cells, List.take_succ_cons, List.take_zero, List.drop_succ_cons, List.drop_zero, List.drop_nil, List.cons_append, List.nil_append, List.append_nil, Nat.reduceAdd]; rfl)); intro W_ H_; (clear H; have H := H_; clear H_)) | (go_at_call 27; refine (laws_toIntS _ _ _ _ (i1.on H) hs1).mono ?_; rintro e w1 ⟨g1, rfl, k⟩; (have H_ := H.call k); simp only [List.cons_append, List.nil_append] at H_; (clear H; have H := H_; clear H_); clear k) | (go_at_call 29; refine (laws_eqIntS _ _ _ _ _ _ (InI.of (H.get (by (repeat (first | (with_reducible exact Pick.here) | (with_reducible apply Pick.there)))))) (InI.of (H.get (by (repeat (first | (with_reducible exact Pick.here) | (with_reducible apply Pick.there))))))).mono ?_; rintro e w1 ⟨rfl, k⟩; (have H_ := H.call k); simp only [List.cons_append, List.nil_append] at H_; (clear H; have H := H_; clear H_); clear k) | (go_at_call 38; refine (laws_toPad x _).mono ?_; rintro e w1 ⟨rfl, hb⟩; (have H_ := H.callB hb; (clear H; have H := H_; clear H_); clear hb)) | (go_at_call 40; refine (laws_eqPad (x.read xs t) _).mono ?_; rintro e w1 ⟨rfl, hb⟩; (have H_ := H.callB hb; (clear H; have H := H_; clear H_); clear hb)) | (go_at_call 41; refine (spec_PadRead x _ _ _ _ _ (InI.of (H.get (by (repeat (first | (with_reducible exact Pick.here) | (with_reducible apply Pick.there)))))) (wf_i wf2).2).mono ?_; rintro e w1 ⟨rfl, hb⟩; (have H_ := H.callB hb; (clear H; have H := H_; clear H_); clear hb)) | (go_at_call 42; refine (impl_PadRead x _ _ _ _ _ (InI.of (H.get (by (repeat (first | (with_reducible exact Pick.here) | (with_reducible apply Pick.there)))))) (wf_i wf2).2).mono ?_; rintro e w1 ⟨rfl, hb⟩; (have H_ := H.callB hb; (clear H; have H := H_; clear H_); clear hb)))
  all_goals (go_ret; exact ⟨rfl, H.below⟩)
end Go.Proofs.Ytdgbcgbpmhkkjaa.fnExactPadRead
namespace Go.Proofs.Ytdgbcgbpmhkkjaa.fnExactPadRead
open Go.ChangeShapes Go.WideShapes Go.ChangeAt Go.RowKit Go.Proofs.Ytdgbcgbpmhkkjaa.K Go.Proofs.Ytdgbcgbpmhkkjaa.B
set_option linter.unusedVariables false
theorem own : ownKnob Try.prog.godebug = none := by kernel_rfl
theorem laidOut : laidOutB Try.prog = true := by kernel_rfl
theorem flat_pad : flat Try.prog 6 44 = some [4, 3] := by kernel_rfl
set_option maxRecDepth 100000 in
theorem lifted (os : Os) (started : os.Started) (H : Type) (enc : TypeId × Value → H) :
    ReturnsInHanded {} Try.checked os 13 .any (Rows.fnExactPadReadSpec.pre6 enc Try.prog Try.f13 Rows.fnExactPadReadRow.domain false) (Rows.fnExactPadReadSpec.post enc Try.prog Try.f13 false true false false) := by
  refine returnsInHanded_of_change_sized (C := Try.checked) own started (by kernel_rfl) Try.func13
    (ChangeSpec.witness6 (enc := enc) (C := Try.checked) false ⟨#[], #[.agg #[.bool false, .int .i64 0], .slice none 0 0, .int .i64 0], []⟩ 8 (by kernel_rfl) (by kernel_rfl) (by kernel_rfl) (by kernel_rfl)) ?_
  intro W base args ds gs before hval0 hW hcnd hsz0 _
  have hval : ∀ (j : Nat) t v, Try.f13.params[j]? = some t → args[j]? = some v → Value.okWide Try.prog W .any base t v := hval0
  have hW' := hW
  obtain ⟨p, q, hA0, hV, rfl, hfz, hnd⟩ := hW
  have hA : DataW.TrodAll enc Try.prog W 0 (fun _ => true) true Try.f13.params.toList args.toList ds p := hA0
  rw [Try.params13] at hA hval
  obtain ⟨v0, vs0, d0, ds0, p0, q0, hargs, rfl, rfl, h0, r0⟩ := trodAll_cons hA
  obtain ⟨v1, vs1, d1, ds1, p1, q1, rfl, rfl, rfl, h1, r1⟩ := trodAll_cons r0
  obtain ⟨v2, vs2, d2, ds2, p2, q2, rfl, rfl, rfl, h2, r2⟩ := trodAll_cons r1
  obtain ⟨rfl, rfl, rfl⟩ := trodAll_nil r2
  obtain rfl : args = #[v0, v1, v2] := by cases args; simp_all
  obtain ⟨rfl, rfl⟩ := trodVars_none hV
  have k0 := h0
  have lt0 : ∀ x ∈ p0, x.block < W.heap.size := by obtain ⟨m, hm⟩ := k0; exact DataW.trod_lt m _ _ _ hm
  obtain ⟨cs0, rfl, hl0, hf0⟩ := open_flat Try.underlying44 flat_pad (by kernel_rfl) (hval 0 44 v0 rfl rfl) h0
  obtain ⟨u0_0, u0_1, rfl⟩ := array2 hl0
  obtain ⟨_, _, t0_0⟩ := hf0 0 _ _ rfl rfl
  obtain ⟨x0_0, rfl⟩ := leaf_bool Try.underlying4 t0_0
  obtain ⟨_, _, t0_1⟩ := hf0 1 _ _ rfl rfl
  obtain ⟨x0_1, rfl, _⟩ := leaf_int Try.underlying3 t0_1
  have k1 := h1
  have lt1 : ∀ x ∈ p1, x.block < W.heap.size := by obtain ⟨m, hm⟩ := k1; exact DataW.trod_lt m _ _ _ hm
  obtain ⟨A1_, n1_, c1_, rfl⟩ := okWide_slice Try.underlying31 (hval 1 31 v1 rfl rfl)
  obtain ⟨m1, hm1⟩ := h1
  obtain ⟨A1, c1, l1, e1, i1, _⟩ := leaf_ints Try.underlying31 Try.underlying3 (by kernel_rfl) (by simpa [Value.cells] using hm1)
  injection e1 with e1a e1b e1c
  subst e1a e1b e1c
  obtain ⟨a2, rfl, rfl, rfl, w2⟩ := open_int Try.underlying3 (hval 2 3 v2 rfl rfl) h2
  clear hA0 hval0 hsz0
  refine (walk W ⟨x0_0, x0_1⟩ A1_ c1_ l1 i1 a2 w2).mono fun e W' ⟨he, bel⟩ => ?_
  subst he
  exact ⟨_, rfl, _, _, _, [], _, [], hW', trodAll_mk1 (shut_bool Try.underlying4 _), (trodAll_cons_mk (Below.trod laidOut (by kernel_rfl) (of_decide_eq_true (by kernel_rfl)) k0 bel lt0) (trodAll_cons_mk (Below.trod laidOut (by kernel_rfl) (of_decide_eq_true (by kernel_rfl)) k1 bel lt1) (trodAll_cons_mk (shut_int Try.underlying3 w2) trodAll_mk0))), rfl, bel.frame _, fun h => by cases h⟩
theorem over : Rows.fnExactPadReadRow.holds Try.pinned (OpenSpec.ofChange Rows.fnExactPadReadSpec) :=
  OpenClaim.holds_of_wide 13 Try.f13 rfl rfl rfl rfl rfl rfl rfl ⟨rfl, rfl, rfl, rfl, rfl⟩ rfl rfl rfl rfl rfl (by kernel_rfl) Try.func13 (by kernel_rfl)
    (of_decide_eq_true (by kernel_rfl)) (by unfold Func.isWrapper; first | (rw [if_pos (by decide +kernel)]; kernel_rfl) | (rw [if_neg (by decide +kernel)]; exact ⟨rfl, rfl⟩))
    (fun os started H enc _ => lifted os started H enc)
theorem proved : Rows.FnExactPadReadSaid := over
end Go.Proofs.Ytdgbcgbpmhkkjaa.fnExactPadRead
namespace Go.Proofs.Ytdgbcgbpmhkkjaa
theorem fnExactPadRead_holds : Rows.FnExactPadReadSaid := fnExactPadRead.proved
end Go.Proofs.Ytdgbcgbpmhkkjaa
