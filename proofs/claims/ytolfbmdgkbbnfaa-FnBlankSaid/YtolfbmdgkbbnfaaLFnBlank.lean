/- The statement FnBlankSaid: in a drawn stretch of time there is a blank cycle just if the next one lies in it. No conditions. -/
import Derived.Test.YtolfbmdgkbbnfaaRows
import Derived.Test.YtolfbmdgkbbnfaaChecked
import Derived.Test.YtolfbmdgkbbnfaaO3
import Derived.Test.YtolfbmdgkbbnfaaDR2
namespace Go.Proofs.Ytolfbmdgkbbnfaa.fnBlank
open Go.RowKit Go.Proofs.Ytolfbmdgkbbnfaa.K Go.Proofs.Ytolfbmdgkbbnfaa.B Go.Proofs.Ytolfbmdgkbbnfaa.C
set_option maxRecDepth 20000
set_option linter.unusedVariables false
set_option linter.unusedSimpArgs false
theorem law (a b : Int) : cyc a b 48 64 = (decide (nxt a < b) && (decide (nxt a < 20000) && decide (a < 20000))) ∧ nxt a % 64 = 48 := by
  unfold cyc nxt
  have h := tim_bd a
  have h2 := tim_bd b
  have h3 : tim b = (if b < 0 then 0 else if 20000 < b then 20000 else b) := rfl
  have h4 : tim a = (if a < 0 then 0 else if 20000 < a then 20000 else a) := rfl
  refine ⟨?_, by omega⟩
  rw [Bool.eq_iff_iff]
  simp only [Bool.and_eq_true, decide_eq_true_eq]
  split at h3 <;> split at h4 <;> (try split at h3) <;> (try split at h4) <;> omega
set_option maxRecDepth 100000 in
set_option maxHeartbeats 8000000 in
theorem walk (w : World) (A : Option Addr) (c : Nat) (bs : List Int) (hb : InB w A c bs) : Calls Try.prog 4 #[.slice A bs.length c] w fun e w' => e = .returned (.bool true) ∧ Below w.heap.size w w' := by
  have H := St.nil w []
  have hm := hb.2.1
  by_cases hbig : 1048576 < bs.length
  · go_enter Try.func4, Try.ntmps4
    go_wp2_with (first | (go_at_call 14; (with_reducible refine (laws_big _ _ _ _ hm).mono ?_); rintro e w1 ⟨rfl, rfl⟩))
    all_goals (go_ret; exact ⟨rfl, H.below⟩)
  · go_enter Try.func4, Try.ntmps4
    go_upto_region 4 with (first | (go_at_call 14; (with_reducible refine (laws_big _ _ _ _ hm).mono ?_); rintro e w1 ⟨rfl, rfl⟩) | (go_at_call 20; (with_reducible refine (spec_DrawBlankIn A c bs _ (hb.on0 H)).mono ?_); rintro e w1 ⟨x_, y_, rfl, ⟨x0_, x1_⟩, ⟨y0_, y1_⟩, kb⟩; (have H_ := H.callB kb; (clear H; have H := H_; clear H_); clear kb)))
    obtain ⟨l1, l2⟩ := law x_ y_
    have l0 : 0 ≤ nxt x_ := by unfold nxt; have := tim_bd x_; omega
    have l3 : (nxt x_).tmod 64 = 48 := by rw [tm l0]; exact l2
    go_upto_region 9 with (first | (go_at_call 19; (with_reducible refine (impl_BlankIn _ _ _).mono ?_); rintro e w1 ⟨rfl, rfl⟩) | (go_at_call 22; (with_reducible refine (spec_BlankIn _ _ _).mono ?_); rintro e w1 ⟨rfl, rfl⟩) | (go_at_call 21; (with_reducible refine (impl_NextBlank _ _).mono ?_); rintro e w1 ⟨rfl, rfl⟩) | (go_at_call 23; (with_reducible refine (spec_NextBlank _ _).mono ?_); rintro e w1 ⟨rfl, rfl⟩) | (go_at_call 24; (with_reducible refine (spec_DrawFrameOf A c bs _ (hb.on0 H)).mono ?_); rintro e w1 ⟨f_, rfl, ⟨f0_, f1_⟩, kb⟩; (have H_ := H.callB kb; (clear H; have H := H_; clear H_); clear kb)))
    go_wp2_with (first | (go_at_call 25; (with_reducible refine (spec_DrawBeatIn A c bs _ (hb.on0 H)).mono ?_); rintro e w1 ⟨u_, v_, rfl, ⟨u0_, u1_⟩, ⟨v0_, v1_⟩, kb⟩; (have H_ := H.callB kb; (clear H; have H := H_; clear H_); clear kb)) | (go_at_call 26; (with_reducible refine (impl_FrameOf _ _ f1_).mono ?_); rintro e w1 ⟨rfl, rfl⟩) | (go_at_call 27; (with_reducible refine (spec_FrameOf _ _ f1_).mono ?_); rintro e w1 ⟨rfl, rfl⟩) | (go_at_call 28; (with_reducible refine (impl_BeatIn _ _ _).mono ?_); rintro e w1 ⟨rfl, rfl⟩) | (go_at_call 29; (with_reducible refine (spec_BeatIn _ _ _).mono ?_); rintro e w1 ⟨rfl, rfl⟩))
    all_goals (go_ret; exact ⟨ret_b (by simp [*]), H.below⟩)
end Go.Proofs.Ytolfbmdgkbbnfaa.fnBlank
namespace Go.Proofs.Ytolfbmdgkbbnfaa.fnBlank
open Go.ChangeShapes Go.WideShapes Go.ChangeAt Go.RowKit Go.Proofs.Ytolfbmdgkbbnfaa.K Go.Proofs.Ytolfbmdgkbbnfaa.B Go.Proofs.Ytolfbmdgkbbnfaa.C
set_option linter.unusedVariables false
theorem own : ownKnob Try.prog.godebug = none := by kernel_rfl
theorem laidOut : laidOutB Try.prog = true := by kernel_rfl
set_option maxRecDepth 100000 in
set_option maxHeartbeats 1000000 in
theorem lifted (os : Os) (started : os.Started) (H : Type) (enc : TypeId × Value → H) :
    ReturnsInHanded {} Try.checked os 4 .any (Rows.fnBlankSpec.pre6 enc Try.prog Try.f4 Rows.fnBlankRow.domain false) (Rows.fnBlankSpec.post enc Try.prog Try.f4 false true false false) := by
  refine returnsInHanded_of_change_sized (C := Try.checked) own started (by kernel_rfl) Try.func4
    (ChangeSpec.witness6 (enc := enc) (C := Try.checked) false ⟨#[], #[.slice none 0 0], []⟩ 8 (by kernel_rfl) (by kernel_rfl) (by kernel_rfl) (by kernel_rfl)) ?_
  intro W base args ds gs before hval0 hW hcnd hsz0 _
  have hval : ∀ (j : Nat) t v, Try.f4.params[j]? = some t → args[j]? = some v → Value.okWide Try.prog W .any base t v := hval0
  have hW' := hW
  obtain ⟨p, q, hA0, hV, rfl, hfz, hnd⟩ := hW
  have hA : DataW.TrodAll enc Try.prog W 0 (fun _ => true) true Try.f4.params.toList args.toList ds p := hA0
  rw [Try.params4] at hA hval
  obtain ⟨v0, vs0, d0, ds0, p0, q0, hargs, rfl, rfl, h0, r0⟩ := trodAll_cons hA
  obtain ⟨rfl, rfl, rfl⟩ := trodAll_nil r0
  obtain rfl : args = #[v0] := by cases args; simp_all
  obtain ⟨rfl, rfl⟩ := trodVars_none hV
  have k0 := h0
  have lt0 : ∀ x ∈ p0, x.block < W.heap.size := by obtain ⟨m, hm⟩ := k0; exact DataW.trod_lt m _ _ _ hm
  obtain ⟨A0_, n0_, c0_, rfl⟩ := okWide_slice Try.underlying22 (hval 0 22 v0 rfl rfl)
  obtain ⟨m0, hm0⟩ := h0
  obtain ⟨A0, c0, l0, e0, i0⟩ := leaf_bytes Try.underlying22 Try.underlying5 (by kernel_rfl) (by simpa [Value.cells] using hm0)
  injection e0 with e0a e0b e0c
  subst e0a e0b e0c
  clear hA0 hval0 hsz0
  refine (walk W A0_ c0_ l0 i0).mono fun e W' ⟨he, bel⟩ => ?_
  subst he
  exact ⟨_, rfl, _, _, _, [], _, [], hW', trodAll_mk1 (shut_bool Try.underlying4 _), (trodAll_cons_mk (Below.trod laidOut (by kernel_rfl) (of_decide_eq_true (by kernel_rfl)) k0 bel lt0) trodAll_mk0), rfl, bel.frame _, fun h => by cases h⟩
theorem over : Rows.fnBlankRow.holds Try.pinned (OpenSpec.ofChange Rows.fnBlankSpec) :=
  OpenClaim.holds_of_wide 4 Try.f4 rfl rfl rfl rfl rfl rfl rfl ⟨rfl, rfl, rfl, rfl, rfl⟩ rfl rfl rfl rfl rfl (by kernel_rfl) Try.func4 (by kernel_rfl)
    (of_decide_eq_true (by kernel_rfl)) (by unfold Func.isWrapper; first | (rw [if_pos (by decide +kernel)]; kernel_rfl) | (rw [if_neg (by decide +kernel)]; exact ⟨rfl, rfl⟩))
    (fun os started H enc _ => lifted os started H enc)
theorem proved : Rows.FnBlankSaid := over
end Go.Proofs.Ytolfbmdgkbbnfaa.fnBlank
namespace Go.Proofs.Ytolfbmdgkbbnfaa
theorem fnBlank_holds : Rows.FnBlankSaid := fnBlank.proved
end Go.Proofs.Ytolfbmdgkbbnfaa
