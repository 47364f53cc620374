/- The statement FnExactRingNewSaid: RingNew of the program tells what the reference's tells. No conditions. -/
import Derived.Test.YtndnfafplpbbkaaRows
import Derived.Test.YtndnfafplpbbkaaChecked
import Derived.Test.YtndnfafplpbbkaaO2
import Derived.Test.YtndnfafplpbbkaaG2
namespace Go.Proofs.Ytndnfafplpbbkaa.fnExactRingNew
open Go.RowKit Go.Proofs.Ytndnfafplpbbkaa.K Go.Proofs.Ytndnfafplpbbkaa.B Go.Proofs.Ytndnfafplpbbkaa.C
set_option maxRecDepth 20000
set_option linter.unusedVariables false
set_option linter.unusedSimpArgs false
set_option maxRecDepth 100000 in
set_option maxHeartbeats 8000000 in
theorem walk (w : World) (c : Int) (wf0 : (Lit.int .i64 c).wf = true) : Calls Try.prog 4 #[.int .i64 c] w fun e w' => e = .returned (.bool true) ∧ Below w.heap.size w w' := by
  have H := St.nil w []
  have hmg : (RingD.new c).mk_ ≤ 100000000 := RingD.new_mk c
  go_enter Try.func4, Try.ntmps4
  go_wp2_with (first | ((with_reducible refine g_box rfl ?_); (first | refine ev_box (v := .int _ _) H rfl rfl rfl rfl ?_ | refine ev_box (v := .bool _) H rfl rfl rfl rfl ?_ | refine ev_box (v := .slice _ _ _) H rfl rfl rfl rfl ?_ | refine ev_box (v := .agg _) H rfl rfl rfl rfl ?_); intro g_ W_ H_; (clear H; have H := H_; clear H_)) | ((with_reducible refine g_alloc rfl ?_); refine' ev_alloc H rfl rfl ?_ ?_ ?_; rotate_left 2; (focus exact zT rfl); (focus rfl); intro g_ W_ H_; (clear H; have H := H_; clear H_)) | ((with_reducible refine g_load rfl ?_); first | (refine' ev_load_one H rfl rfl rfl ?_ ?_ ?_ ?_; rotate_left 4; (focus (repeat (first | (with_reducible exact Pick.here) | (with_reducible apply Pick.there)))); (focus exact oneT rfl); (focus rfl)) | (refine' ev_load_agg H rfl rfl rfl ?_ ?_ ?_ ?_ ?_; rotate_left 5; (focus (repeat (first | (with_reducible exact Pick.here) | (with_reducible apply Pick.there)))); (focus exact aggT rfl); (focus first | (simp only [List.take_succ_cons, List.take_zero, List.drop_succ_cons, List.drop_zero, List.cons_append, List.nil_append, Nat.reduceAdd]; rfl)); (focus rfl))) | ((with_reducible refine g_store rfl ?_); (first | refine' ev_store (v := .int _ _) H rfl rfl rfl rfl rfl ?_ ?_ ?_ ?_ ?_ ?_ ?_ | refine' ev_store (v := .bool _) H rfl rfl rfl rfl rfl ?_ ?_ ?_ ?_ ?_ ?_ ?_ | refine' ev_store (v := .slice _ _ _) H rfl rfl rfl rfl rfl ?_ ?_ ?_ ?_ ?_ ?_ ?_ | refine' ev_store (v := .agg _) H rfl rfl rfl rfl rfl ?_ ?_ ?_ ?_ ?_ ?_ ?_); rotate_left 5; (focus (repeat (first | (with_reducible exact Pick.here) | (with_reducible apply Pick.there)))); (focus exact szT rfl); (focus rfl); (focus exact Nat.le_of_ble_eq_true rfl); (focus rfl); (focus (simp only [Value.cells, List.take_succ_cons, List.take_zero, List.drop_succ_cons, List.drop_zero, List.drop_nil, List.cons_append, List.nil_append, List.append_nil, Nat.reduceAdd]; rfl)); intro W_ H_; (clear H; have H := H_; clear H_)) | (go_at_call 19; (with_reducible refine (laws_eqRing (RingD.new c) _ _ _ (RingIn.of (H.get (by ((repeat (first | (with_reducible exact Pick.here) | (with_reducible apply Pick.there))); done)))) (RingIn.of (H.get (by ((repeat (first | (with_reducible exact Pick.here) | (with_reducible apply Pick.there))); done))))).mono ?_); rintro e w1 ⟨rfl, hb⟩; (have H_ := H.callB hb; (clear H; have H := H_; clear H_); clear hb)) | (go_at_call 22; (with_reducible refine (laws_markRing (RingD.new c) _ _ _ (St.hol1 (H.weak (a := ringA (RingD.new c) _) (by ((repeat (first | (with_reducible exact Pick.here) | (with_reducible apply Pick.there))); done)) (ringR_fp _ _) (fun _ => ringR_of))) (by omega) (by omega)).mono ?_); rintro e w1 ⟨rfl, kk⟩; have H_ := (H.weak (a := ringA (RingD.new c) _) (by ((repeat (first | (with_reducible exact Pick.here) | (with_reducible apply Pick.there))); done)) (ringR_fp _ _) (fun _ => ringR_of)).up1 kk (fun b hb => hb); simp only [List.cons_append, List.nil_append] at H_; (clear H; have H := H_; clear H_); clear kk) | (go_at_call 23; (with_reducible refine (laws_heldRing (RingD.new c) _ _ _ (H.get (by ((repeat (first | (with_reducible exact Pick.here) | (with_reducible apply Pick.there))); done))) (by omega) (by omega)).mono ?_); rintro e w1 ⟨rfl, hb⟩; (have H_ := H.callB hb; (clear H; have H := H_; clear H_); clear hb)) | (go_at_call 20; (with_reducible refine (spec_RingNewS c _).mono ?_); rintro e w1 ⟨qg_, rfl, kq⟩; (have H_ := H.call kq); simp only [List.cons_append, List.nil_append] at H_; (clear H; have H := H_; clear H_); clear kq) | (go_at_call 21; (with_reducible refine (impl_RingNewS c _).mono ?_); rintro e w1 ⟨qg_, rfl, kq⟩; (have H_ := H.call kq); simp only [List.cons_append, List.nil_append] at H_; (clear H; have H := H_; clear H_); clear kq))
  all_goals (go_ret; exact ⟨rfl, H.below⟩)
end Go.Proofs.Ytndnfafplpbbkaa.fnExactRingNew
namespace Go.Proofs.Ytndnfafplpbbkaa.fnExactRingNew
open Go.ChangeShapes Go.WideShapes Go.ChangeAt Go.RowKit Go.Proofs.Ytndnfafplpbbkaa.K Go.Proofs.Ytndnfafplpbbkaa.B Go.Proofs.Ytndnfafplpbbkaa.C
set_option linter.unusedVariables false
theorem own : ownKnob Try.prog.godebug = none := by kernel_rfl
theorem laidOut : laidOutB Try.prog = true := by kernel_rfl
set_option maxRecDepth 100000 in
set_option maxHeartbeats 1000000 in
theorem lifted (os : Os) (started : os.Started) (H : Type) (enc : TypeId × Value → H) :
    ReturnsInHanded {} Try.checked os 4 .any (Rows.fnExactRingNewSpec.pre6 enc Try.prog Try.f4 Rows.fnExactRingNewRow.domain false) (Rows.fnExactRingNewSpec.post enc Try.prog Try.f4 false true false false) := by
  refine returnsInHanded_of_change_sized (C := Try.checked) own started (by kernel_rfl) Try.func4
    (ChangeSpec.witness6 (enc := enc) (C := Try.checked) false ⟨#[], #[.int .i64 0], []⟩ 8 (by kernel_rfl) (by kernel_rfl) (by kernel_rfl) (by kernel_rfl)) ?_
  intro W base args ds gs before hval0 hW hcnd hsz0 _
  have hval : ∀ (j : Nat) t v, Try.f4.params[j]? = some t → args[j]? = some v → Value.okWide Try.prog W .any base t v := hval0
  have hW' := hW
  obtain ⟨p, q, hA0, hV, rfl, hfz, hnd⟩ := hW
  have hA : DataW.TrodAll enc Try.prog W 0 (fun _ => true) true Try.f4.params.toList args.toList ds p := hA0
  rw [Try.params4] at hA hval
  obtain ⟨v0, vs0, d0, ds0, p0, q0, hargs, rfl, rfl, h0, r0⟩ := trodAll_cons hA
  obtain ⟨rfl, rfl, rfl⟩ := trodAll_nil r0
  obtain rfl : args = #[v0] := by cases args; simp_all
  obtain ⟨rfl, rfl⟩ := trodVars_none hV
  obtain ⟨a0, rfl, rfl, rfl, w0⟩ := open_int Try.underlying3 (hval 0 3 v0 rfl rfl) h0
  clear hA0 hval0 hsz0
  refine (walk W a0 w0).mono fun e W' ⟨he, bel⟩ => ?_
  subst he
  exact ⟨_, rfl, _, _, _, [], _, [], hW', trodAll_mk1 (shut_bool Try.underlying4 _), (trodAll_cons_mk (shut_int Try.underlying3 w0) trodAll_mk0), rfl, bel.frame _, fun h => by cases h⟩
theorem over : Rows.fnExactRingNewRow.holds Try.pinned (OpenSpec.ofChange Rows.fnExactRingNewSpec) :=
  OpenClaim.holds_of_wide 4 Try.f4 rfl rfl rfl rfl rfl rfl rfl ⟨rfl, rfl, rfl, rfl, rfl⟩ rfl rfl rfl rfl rfl (by kernel_rfl) Try.func4 (by kernel_rfl)
    (of_decide_eq_true (by kernel_rfl)) (by unfold Func.isWrapper; first | (rw [if_pos (by decide +kernel)]; kernel_rfl) | (rw [if_neg (by decide +kernel)]; exact ⟨rfl, rfl⟩))
    (fun os started H enc _ => lifted os started H enc)
theorem proved : Rows.FnExactRingNewSaid := over
end Go.Proofs.Ytndnfafplpbbkaa.fnExactRingNew
namespace Go.Proofs.Ytndnfafplpbbkaa
theorem fnExactRingNew_holds : Rows.FnExactRingNewSaid := fnExactRingNew.proved
end Go.Proofs.Ytndnfafplpbbkaa
