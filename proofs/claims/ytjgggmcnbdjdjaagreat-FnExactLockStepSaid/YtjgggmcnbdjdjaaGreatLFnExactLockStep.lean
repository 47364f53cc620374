/- The statement FnExactLockStepSaid: LockStep of the program tells what the reference's tells. No conditions. -/
import Derived.Test.YtjgggmcnbdjdjaaGreatRows
import Derived.Test.YtjgggmcnbdjdjaaGreatChecked
import Derived.Test.YtjgggmcnbdjdjaaGreatO2
import Derived.Test.YtjgggmcnbdjdjaaGreatY25
namespace Go.Proofs.YtjgggmcnbdjdjaaGreat.fnExactLockStep
open Go.RowKit Go.Proofs.YtjgggmcnbdjdjaaGreat.K Go.Proofs.YtjgggmcnbdjdjaaGreat.B Go.Proofs.YtjgggmcnbdjdjaaGreat.C
set_option maxRecDepth 20000
set_option linter.unusedVariables false
set_option linter.unusedSimpArgs false
set_option maxRecDepth 100000 in
set_option maxHeartbeats 8000000 in
theorem walk (w : World) (x : LockD) (q0 : LockP) (i0 : LockIn w x q0) : Calls Tryz.prog 5 #[.agg #[.slice q0.img.banks.s.A x.img.banks.length q0.img.banks.s.c, .slice q0.pads.A x.pads.length q0.pads.c, .slice q0.mem.ram.A x.mem.ram.length q0.mem.ram.c, .int .i64 x.mem.bank, .int .i64 x.cpu.a, .int .i64 x.cpu.x, .int .i64 x.cpu.s, .int .i64 x.cpu.pc, .bool x.cpu.z, .bool x.cpu.n, .bool x.cpu.c, .bool x.cpu.i, .int .i64 x.ppu.t, .int .i64 x.ppu.ctrl, .int .i64 x.ppu.scroll, .int .i64 x.ppu.addr, .int .i64 x.ppu.pal, .bool x.ppu.blank, .slice q0.ppu.table.A x.ppu.table.length q0.ppu.table.c, .slice q0.ppu.dots.A x.ppu.dots.length q0.ppu.dots.c, .int .i64 x.apu.t, .int .i64 x.apu.p, .int .i64 x.apu.c, .int .i64 x.apu.b, .int .i64 x.apu.l, .bool x.apu.k, .bool x.apu.i, .bool x.pad.h, .int .i64 x.pad.s, .bool x.nmi, .int .i64 x.steps, .slice q0.obs.frames.s.A x.obs.frames.length q0.obs.frames.s.c, .slice q0.obs.samples.A x.obs.samples.length q0.obs.samples.c, .slice q0.obs.reads.A x.obs.reads.length q0.obs.reads.c]] w fun e w' => e = .returned (.bool true) ∧ Below w.heap.size w w' := by
  have H := St.nil w []
  by_cases hz0 : x.sz_ ≤ 1048576
  case neg =>
    have hz : szOf 1048576 x.sz_ < 0 := by unfold szOf; omega
    go_enter Tryz.func5, Tryz.ntmps5
    go_wp2_with (first | ((with_reducible refine g_box rfl ?_); refine eBa H ?_; clear H; intro g_ W_ H) | ((with_reducible refine g_alloc rfl ?_); refine eNw H ?_; clear H; intro g_ W_ H) | ((with_reducible refine g_load rfl ?_); refine eLa H ?_) | ((with_reducible refine g_store rfl ?_); refine eSa H ?_; clear H; intro W_ H) | (go_at_call 8; (with_reducible refine (laws_szLock x _ _ _ (i0.on H) (by omega) (by omega)).mono ?_); rintro e w1 ⟨rfl, hb⟩; (replace H := H.callB hb; clear hb)))
    all_goals (go_ret; exact ⟨rfl, H.below⟩)
  have hz0_ : ¬ szOf 1048576 x.sz_ < 0 := by unfold szOf; omega
  have hs0 := LockSmall.of hz0
  have hmk0 : x.mk_ ≤ 100000000 := by have hz_ := hz0; simp only [LockD.sz_, ImageD.sz_, MemD.sz_, PpuD.sz_, ObsD.sz_] at hz_; simp only [LockD.mk_, ImageD.mk_, MemD.mk_, PpuD.mk_, ObsD.mk_]; omega
  have hmg : x.stepO.mk_ ≤ 100000015 := by have := LockD.stepO_mk x; omega
  go_enter Tryz.func5, Tryz.ntmps5
  go_wp2_with (first | ((with_reducible refine g_box rfl ?_); refine eBa H ?_; clear H; intro g_ W_ H) | ((with_reducible refine g_alloc rfl ?_); refine eNw H ?_; clear H; intro g_ W_ H) | ((with_reducible refine g_load rfl ?_); refine eLa H ?_) | ((with_reducible refine g_store rfl ?_); refine eSa H ?_; clear H; intro W_ H) | (go_at_call 8; (with_reducible refine (laws_szLock x _ _ _ (i0.on H) (by omega) (by omega)).mono ?_); rintro e w1 ⟨rfl, hb⟩; (replace H := H.callB hb; clear hb)) | (go_at_call 10; (with_reducible refine (laws_toLock x _ _ (i0.on H) hs0).mono ?_); rintro e w1 ⟨qt_, rfl, kq⟩; (have H_ := H.call kq); simp only [List.cons_append, List.nil_append] at H_; (clear H; have H := H_; clear H_); clear kq) | (go_at_call 12; (with_reducible refine (laws_eqLock x _ _ _ (LockIn.of (H.get pkA)) (LockIn.of (H.get pkA))).mono ?_); rintro e w1 ⟨rfl, hb⟩; (replace H := H.callB hb; clear hb)) | (go_at_call 13; (with_reducible refine (laws_markLock x _ _ _ (St.hol1 (H.weak (a := lockA x _) pkA (lockR_fp _ _) (fun _ => lockR_of))) (by omega) (by omega)).mono ?_); rintro e w1 ⟨rfl, kk⟩; have H_ := (H.weak (a := lockA x _) pkA (lockR_fp _ _) (fun _ => lockR_of)).up1 kk (fun b hb => hb); simp only [List.cons_append, List.nil_append] at H_; (clear H; have H := H_; clear H_); clear kk) | (go_at_call 12; (with_reducible refine (laws_eqLock x.stepO _ _ _ (LockIn.of (H.get pkA)) (LockIn.of (H.get pkA))).mono ?_); rintro e w1 ⟨rfl, hb⟩; (replace H := H.callB hb; clear hb)) | (go_at_call 13; (with_reducible refine (laws_markLock x.stepO _ _ _ (St.hol1 (H.weak (a := lockA x.stepO _) pkA (lockR_fp _ _) (fun _ => lockR_of))) (by omega) (by omega)).mono ?_); rintro e w1 ⟨rfl, kk⟩; have H_ := (H.weak (a := lockA x.stepO _) pkA (lockR_fp _ _) (fun _ => lockR_of)).up1 kk (fun b hb => hb); simp only [List.cons_append, List.nil_append] at H_; (clear H; have H := H_; clear H_); clear kk) | (go_at_call 14; (with_reducible refine (laws_heldLock x.stepO _ _ _ (H.get pkA) (by omega) (by omega)).mono ?_); rintro e w1 ⟨rfl, hb⟩; (replace H := H.callB hb; clear hb)) | (go_at_call 17; (with_reducible refine (spec_LockStep x _ _ (LockIn.of (H.get pkA)) hs0).mono ?_); rintro e w1 ⟨qg_, rfl, kq⟩; (have H_ := H.call kq); simp only [List.cons_append, List.nil_append] at H_; (clear H; have H := H_; clear H_); clear kq) | (go_at_call 18; (with_reducible refine (impl_LockStep x _ _ (LockIn.of (H.get pkA)) hs0).mono ?_); rintro e w1 ⟨qg_, rfl, kq⟩; (have H_ := H.call kq); simp only [List.cons_append, List.nil_append] at H_; (clear H; have H := H_; clear H_); clear kq))
  (with_reducible refine g_draw ?_)
  try simp only [Act.put, List.setIfInBounds_toArray, List.set_cons_succ, List.set_cons_zero]
  refine F_begin (ls := #[false, false, false, false, false]) (by kernel_rfl) rfl (by kernel_rfl) ?_
  have H_ := H.drew
  (clear H; have H := H_; clear H_)
  refine T_go [(1, 0, 41), (1, 1, 42)] ?_; (repeat (refine T_rA ?_)); refine T_end ?_
  refine F_eA (ls' := #[true, true, true, false, false]) (pend' := [0]) 2 ?_; intro K_ hK_; (conv => (arg 4; arg 1; whnf)); (repeat (first | refine hK_ _ _ rfl ?_ ?_ | (go_big_may; (go_at_call 10; (with_reducible refine (laws_toLock x _ _ (i0.on H) hs0).mono ?_); rintro e w1 ⟨qt_, rfl, kq⟩; (have H_ := H.call kq); simp only [List.cons_append, List.nil_append] at H_; (clear H; have H := H_; clear H_); clear kq)) | go_step | go_guarded | go_upon | dsimp only)); (focus (refine kept_cA 0 41 ?_; exact kept_nil))
  refine F_eA (ls' := #[true, true, true, true, false]) (pend' := []) 3 ?_; intro K_ hK_; (conv => (arg 4; arg 1; whnf)); (repeat (first | refine hK_ _ _ rfl ?_ ?_ | (go_big_may; (first | (go_at_call 12; (with_reducible refine (laws_eqLock x _ _ _ (LockIn.of (H.get pkA)) (LockIn.of (H.get pkA))).mono ?_); rintro e w1 ⟨rfl, hb⟩; (replace H := H.callB hb; clear hb)) | (go_at_call 12; (with_reducible refine (laws_eqLock x.stepO _ _ _ (LockIn.of (H.get pkA)) (LockIn.of (H.get pkA))).mono ?_); rintro e w1 ⟨rfl, hb⟩; (replace H := H.callB hb; clear hb)))) | go_step | go_guarded | go_upon | dsimp only)); exact kept_nil
  refine T_go [(0, 4, 45)] ?_; (repeat (refine T_pA ?_)); refine T_end ?_
  refine F_done (by kernel_rfl) ?_
  go_wp2_with (first | ((with_reducible refine g_box rfl ?_); refine eBa H ?_; clear H; intro g_ W_ H) | ((with_reducible refine g_alloc rfl ?_); refine eNw H ?_; clear H; intro g_ W_ H) | ((with_reducible refine g_load rfl ?_); refine eLa H ?_) | ((with_reducible refine g_store rfl ?_); refine eSa H ?_; clear H; intro W_ H) | (go_at_call 8; (with_reducible refine (laws_szLock x _ _ _ (i0.on H) (by omega) (by omega)).mono ?_); rintro e w1 ⟨rfl, hb⟩; (replace H := H.callB hb; clear hb)) | (go_at_call 10; (with_reducible refine (laws_toLock x _ _ (i0.on H) hs0).mono ?_); rintro e w1 ⟨qt_, rfl, kq⟩; (have H_ := H.call kq); simp only [List.cons_append, List.nil_append] at H_; (clear H; have H := H_; clear H_); clear kq) | (go_at_call 12; (with_reducible refine (laws_eqLock x _ _ _ (LockIn.of (H.get pkA)) (LockIn.of (H.get pkA))).mono ?_); rintro e w1 ⟨rfl, hb⟩; (replace H := H.callB hb; clear hb)) | (go_at_call 13; (with_reducible refine (laws_markLock x _ _ _ (St.hol1 (H.weak (a := lockA x _) pkA (lockR_fp _ _) (fun _ => lockR_of))) (by omega) (by omega)).mono ?_); rintro e w1 ⟨rfl, kk⟩; have H_ := (H.weak (a := lockA x _) pkA (lockR_fp _ _) (fun _ => lockR_of)).up1 kk (fun b hb => hb); simp only [List.cons_append, List.nil_append] at H_; (clear H; have H := H_; clear H_); clear kk) | (go_at_call 12; (with_reducible refine (laws_eqLock x.stepO _ _ _ (LockIn.of (H.get pkA)) (LockIn.of (H.get pkA))).mono ?_); rintro e w1 ⟨rfl, hb⟩; (replace H := H.callB hb; clear hb)) | (go_at_call 13; (with_reducible refine (laws_markLock x.stepO _ _ _ (St.hol1 (H.weak (a := lockA x.stepO _) pkA (lockR_fp _ _) (fun _ => lockR_of))) (by omega) (by omega)).mono ?_); rintro e w1 ⟨rfl, kk⟩; have H_ := (H.weak (a := lockA x.stepO _) pkA (lockR_fp _ _) (fun _ => lockR_of)).up1 kk (fun b hb => hb); simp only [List.cons_append, List.nil_append] at H_; (clear H; have H := H_; clear H_); clear kk) | (go_at_call 14; (with_reducible refine (laws_heldLock x.stepO _ _ _ (H.get pkA) (by omega) (by omega)).mono ?_); rintro e w1 ⟨rfl, hb⟩; (replace H := H.callB hb; clear hb)) | (go_at_call 17; (with_reducible refine (spec_LockStep x _ _ (LockIn.of (H.get pkA)) hs0).mono ?_); rintro e w1 ⟨qg_, rfl, kq⟩; (have H_ := H.call kq); simp only [List.cons_append, List.nil_append] at H_; (clear H; have H := H_; clear H_); clear kq) | (go_at_call 18; (with_reducible refine (impl_LockStep x _ _ (LockIn.of (H.get pkA)) hs0).mono ?_); rintro e w1 ⟨qg_, rfl, kq⟩; (have H_ := H.call kq); simp only [List.cons_append, List.nil_append] at H_; (clear H; have H := H_; clear H_); clear kq))
  all_goals (go_ret; exact ⟨rfl, H.below⟩)
end Go.Proofs.YtjgggmcnbdjdjaaGreat.fnExactLockStep
namespace Go.Proofs.YtjgggmcnbdjdjaaGreat.fnExactLockStep
open Go.ChangeShapes Go.WideShapes Go.ChangeAt Go.RowKit Go.Proofs.YtjgggmcnbdjdjaaGreat.K Go.Proofs.YtjgggmcnbdjdjaaGreat.B Go.Proofs.YtjgggmcnbdjdjaaGreat.C
set_option linter.unusedVariables false
theorem own : ownKnob Tryz.prog.godebug = none := by kernel_rfl
theorem laidOut : laidOutB Tryz.prog = true := by kernel_rfl
theorem flat_lock : flat Tryz.prog 6 39 = some [22, 25, 25, 3, 3, 3, 3, 3, 4, 4, 4, 4, 3, 3, 3, 3, 3, 4, 25, 25, 3, 3, 3, 3, 3, 4, 4, 4, 3, 4, 3, 22, 25, 25] := by kernel_rfl
theorem arr_lock {cs : List Value} (h : cs.length = 34) : ∃ c0 c1 c2 c3 c4 c5 c6 c7 c8 c9 c10 c11 c12 c13 c14 c15 c16 c17 c18 c19 c20 c21 c22 c23 c24 c25 c26 c27 c28 c29 c30 c31 c32 c33, cs = [c0, c1, c2, c3, c4, c5, c6, c7, c8, c9, c10, c11, c12, c13, c14, c15, c16, c17, c18, c19, c20, c21, c22, c23, c24, c25, c26, c27, c28, c29, c30, c31, c32, c33] := by
  match cs, h with
  | c0 :: c1 :: c2 :: c3 :: c4 :: c5 :: c6 :: c7 :: c8 :: c9 :: c10 :: c11 :: c12 :: c13 :: c14 :: c15 :: c16 :: c17 :: c18 :: c19 :: c20 :: c21 :: c22 :: c23 :: c24 :: c25 :: c26 :: c27 :: c28 :: c29 :: c30 :: c31 :: c32 :: c33 :: [], _ => exact ⟨c0, c1, c2, c3, c4, c5, c6, c7, c8, c9, c10, c11, c12, c13, c14, c15, c16, c17, c18, c19, c20, c21, c22, c23, c24, c25, c26, c27, c28, c29, c30, c31, c32, c33, rfl⟩
set_option maxRecDepth 100000 in
set_option maxHeartbeats 1000000 in
theorem lifted (os : Os) (started : os.Started) (H : Type) (enc : TypeId × Value → H) :
    ReturnsInHanded {} Tryz.checked os 5 .any (Rows.fnExactLockStepSpec.pre6 enc Tryz.prog Tryz.f5 Rows.fnExactLockStepRow.domain false) (Rows.fnExactLockStepSpec.post enc Tryz.prog Tryz.f5 false true false false) := by
  refine returnsInHanded_of_change_sized (C := Tryz.checked) own started (by kernel_rfl) Tryz.func5
    (ChangeSpec.witness6 (enc := enc) (C := Tryz.checked) false ⟨#[], #[.agg #[.slice none 0 0, .slice none 0 0, .slice none 0 0, .int .i64 0, .int .i64 0, .int .i64 0, .int .i64 0, .int .i64 0, .bool false, .bool false, .bool false, .bool false, .int .i64 0, .int .i64 0, .int .i64 0, .int .i64 0, .int .i64 0, .bool false, .slice none 0 0, .slice none 0 0, .int .i64 0, .int .i64 0, .int .i64 0, .int .i64 0, .int .i64 0, .bool false, .bool false, .bool false, .int .i64 0, .bool false, .int .i64 0, .slice none 0 0, .slice none 0 0, .slice none 0 0]], []⟩ 8 (by kernel_rfl) (by kernel_rfl) (by kernel_rfl) (by kernel_rfl)) ?_
  intro W base args ds gs before hval0 hW hcnd hsz0 _
  have hval : ∀ (j : Nat) t v, Tryz.f5.params[j]? = some t → args[j]? = some v → Value.okWide Tryz.prog W .any base t v := hval0
  have hW' := hW
  obtain ⟨p, q, hA0, hV, rfl, hfz, hnd⟩ := hW
  have hA : DataW.TrodAll enc Tryz.prog W 0 (fun _ => true) true Tryz.f5.params.toList args.toList ds p := hA0
  rw [Tryz.params5] at hA hval
  obtain ⟨v0, vs0, d0, ds0, p0, q0, hargs, rfl, rfl, h0, r0⟩ := trodAll_cons hA
  obtain ⟨rfl, rfl, rfl⟩ := trodAll_nil r0
  obtain rfl : args = #[v0] := by cases args; simp_all
  obtain ⟨rfl, rfl⟩ := trodVars_none hV
  have k0 := h0
  have lt0 : ∀ x ∈ p0, x.block < W.heap.size := by obtain ⟨m, hm⟩ := k0; exact DataW.trod_lt m _ _ _ hm
  obtain ⟨cs0, rfl, hl0, hf0⟩ := open_flat Tryz.underlying39 flat_lock (by kernel_rfl) (hval 0 39 v0 rfl rfl) h0
  obtain ⟨u0_0, u0_1, u0_2, u0_3, u0_4, u0_5, u0_6, u0_7, u0_8, u0_9, u0_10, u0_11, u0_12, u0_13, u0_14, u0_15, u0_16, u0_17, u0_18, u0_19, u0_20, u0_21, u0_22, u0_23, u0_24, u0_25, u0_26, u0_27, u0_28, u0_29, u0_30, u0_31, u0_32, u0_33, rfl⟩ := arr_lock hl0
  obtain ⟨_, _, t0_0⟩ := hf0 0 _ _ rfl rfl
  obtain ⟨r0_0, x0_0, rfl, i0_0⟩ := leaf_rows Tryz.underlying22 Tryz.underlying25 Tryz.underlying3 (by kernel_rfl) (by kernel_rfl) t0_0
  obtain ⟨_, _, t0_1⟩ := hf0 1 _ _ rfl rfl
  obtain ⟨A0_1, c0_1, x0_1, rfl, i0_1, _⟩ := leaf_ints Tryz.underlying25 Tryz.underlying3 (by kernel_rfl) t0_1
  obtain ⟨_, _, t0_2⟩ := hf0 2 _ _ rfl rfl
  obtain ⟨A0_2, c0_2, x0_2, rfl, i0_2, _⟩ := leaf_ints Tryz.underlying25 Tryz.underlying3 (by kernel_rfl) t0_2
  obtain ⟨_, _, t0_3⟩ := hf0 3 _ _ rfl rfl
  obtain ⟨x0_3, rfl, _⟩ := leaf_int Tryz.underlying3 t0_3
  obtain ⟨_, _, t0_4⟩ := hf0 4 _ _ rfl rfl
  obtain ⟨x0_4, rfl, _⟩ := leaf_int Tryz.underlying3 t0_4
  obtain ⟨_, _, t0_5⟩ := hf0 5 _ _ rfl rfl
  obtain ⟨x0_5, rfl, _⟩ := leaf_int Tryz.underlying3 t0_5
  obtain ⟨_, _, t0_6⟩ := hf0 6 _ _ rfl rfl
  obtain ⟨x0_6, rfl, _⟩ := leaf_int Tryz.underlying3 t0_6
  obtain ⟨_, _, t0_7⟩ := hf0 7 _ _ rfl rfl
  obtain ⟨x0_7, rfl, _⟩ := leaf_int Tryz.underlying3 t0_7
  obtain ⟨_, _, t0_8⟩ := hf0 8 _ _ rfl rfl
  obtain ⟨x0_8, rfl⟩ := leaf_bool Tryz.underlying4 t0_8
  obtain ⟨_, _, t0_9⟩ := hf0 9 _ _ rfl rfl
  obtain ⟨x0_9, rfl⟩ := leaf_bool Tryz.underlying4 t0_9
  obtain ⟨_, _, t0_10⟩ := hf0 10 _ _ rfl rfl
  obtain ⟨x0_10, rfl⟩ := leaf_bool Tryz.underlying4 t0_10
  obtain ⟨_, _, t0_11⟩ := hf0 11 _ _ rfl rfl
  obtain ⟨x0_11, rfl⟩ := leaf_bool Tryz.underlying4 t0_11
  obtain ⟨_, _, t0_12⟩ := hf0 12 _ _ rfl rfl
  obtain ⟨x0_12, rfl, _⟩ := leaf_int Tryz.underlying3 t0_12
  obtain ⟨_, _, t0_13⟩ := hf0 13 _ _ rfl rfl
  obtain ⟨x0_13, rfl, _⟩ := leaf_int Tryz.underlying3 t0_13
  obtain ⟨_, _, t0_14⟩ := hf0 14 _ _ rfl rfl
  obtain ⟨x0_14, rfl, _⟩ := leaf_int Tryz.underlying3 t0_14
  obtain ⟨_, _, t0_15⟩ := hf0 15 _ _ rfl rfl
  obtain ⟨x0_15, rfl, _⟩ := leaf_int Tryz.underlying3 t0_15
  obtain ⟨_, _, t0_16⟩ := hf0 16 _ _ rfl rfl
  obtain ⟨x0_16, rfl, _⟩ := leaf_int Tryz.underlying3 t0_16
  obtain ⟨_, _, t0_17⟩ := hf0 17 _ _ rfl rfl
  obtain ⟨x0_17, rfl⟩ := leaf_bool Tryz.underlying4 t0_17
  obtain ⟨_, _, t0_18⟩ := hf0 18 _ _ rfl rfl
  obtain ⟨A0_18, c0_18, x0_18, rfl, i0_18, _⟩ := leaf_ints Tryz.underlying25 Tryz.underlying3 (by kernel_rfl) t0_18
  obtain ⟨_, _, t0_19⟩ := hf0 19 _ _ rfl rfl
  obtain ⟨A0_19, c0_19, x0_19, rfl, i0_19, _⟩ := leaf_ints Tryz.underlying25 Tryz.underlying3 (by kernel_rfl) t0_19
  obtain ⟨_, _, t0_20⟩ := hf0 20 _ _ rfl rfl
  obtain ⟨x0_20, rfl, _⟩ := leaf_int Tryz.underlying3 t0_20
  obtain ⟨_, _, t0_21⟩ := hf0 21 _ _ rfl rfl
  obtain ⟨x0_21, rfl, _⟩ := leaf_int Tryz.underlying3 t0_21
  obtain ⟨_, _, t0_22⟩ := hf0 22 _ _ rfl rfl
  obtain ⟨x0_22, rfl, _⟩ := leaf_int Tryz.underlying3 t0_22
  obtain ⟨_, _, t0_23⟩ := hf0 23 _ _ rfl rfl
  obtain ⟨x0_23, rfl, _⟩ := leaf_int Tryz.underlying3 t0_23
  obtain ⟨_, _, t0_24⟩ := hf0 24 _ _ rfl rfl
  obtain ⟨x0_24, rfl, _⟩ := leaf_int Tryz.underlying3 t0_24
  obtain ⟨_, _, t0_25⟩ := hf0 25 _ _ rfl rfl
  obtain ⟨x0_25, rfl⟩ := leaf_bool Tryz.underlying4 t0_25
  obtain ⟨_, _, t0_26⟩ := hf0 26 _ _ rfl rfl
  obtain ⟨x0_26, rfl⟩ := leaf_bool Tryz.underlying4 t0_26
  obtain ⟨_, _, t0_27⟩ := hf0 27 _ _ rfl rfl
  obtain ⟨x0_27, rfl⟩ := leaf_bool Tryz.underlying4 t0_27
  obtain ⟨_, _, t0_28⟩ := hf0 28 _ _ rfl rfl
  obtain ⟨x0_28, rfl, _⟩ := leaf_int Tryz.underlying3 t0_28
  obtain ⟨_, _, t0_29⟩ := hf0 29 _ _ rfl rfl
  obtain ⟨x0_29, rfl⟩ := leaf_bool Tryz.underlying4 t0_29
  obtain ⟨_, _, t0_30⟩ := hf0 30 _ _ rfl rfl
  obtain ⟨x0_30, rfl, _⟩ := leaf_int Tryz.underlying3 t0_30
  obtain ⟨_, _, t0_31⟩ := hf0 31 _ _ rfl rfl
  obtain ⟨r0_31, x0_31, rfl, i0_31⟩ := leaf_rows Tryz.underlying22 Tryz.underlying25 Tryz.underlying3 (by kernel_rfl) (by kernel_rfl) t0_31
  obtain ⟨_, _, t0_32⟩ := hf0 32 _ _ rfl rfl
  obtain ⟨A0_32, c0_32, x0_32, rfl, i0_32, _⟩ := leaf_ints Tryz.underlying25 Tryz.underlying3 (by kernel_rfl) t0_32
  obtain ⟨_, _, t0_33⟩ := hf0 33 _ _ rfl rfl
  obtain ⟨A0_33, c0_33, x0_33, rfl, i0_33, _⟩ := leaf_ints Tryz.underlying25 Tryz.underlying3 (by kernel_rfl) t0_33
  clear hA0 hval0 hsz0
  refine (walk W ⟨⟨x0_0⟩, x0_1, ⟨x0_2, x0_3⟩, ⟨x0_4, x0_5, x0_6, x0_7, x0_8, x0_9, x0_10, x0_11⟩, ⟨x0_12, x0_13, x0_14, x0_15, x0_16, x0_17, x0_18, x0_19⟩, ⟨x0_20, x0_21, x0_22, x0_23, x0_24, x0_25, x0_26⟩, ⟨x0_27, x0_28⟩, x0_29, x0_30, ⟨x0_31, x0_32, x0_33⟩⟩ ⟨⟨r0_0⟩, ⟨A0_1, c0_1⟩, ⟨⟨A0_2, c0_2⟩⟩, ⟨⟨A0_18, c0_18⟩, ⟨A0_19, c0_19⟩⟩, ⟨r0_31, ⟨A0_32, c0_32⟩, ⟨A0_33, c0_33⟩⟩⟩ ⟨⟨i0_0⟩, i0_1, ⟨i0_2⟩, ⟨i0_18, i0_19⟩, ⟨i0_31, i0_32, i0_33⟩⟩).mono fun e W' ⟨he, bel⟩ => ?_
  subst he
  exact ⟨_, rfl, _, _, _, [], _, [], hW', trodAll_mk1 (shut_bool Tryz.underlying4 _), (trodAll_cons_mk (Below.trod laidOut (by kernel_rfl) (of_decide_eq_true (by kernel_rfl)) k0 bel lt0) trodAll_mk0), rfl, bel.frame _, fun h => by cases h⟩
theorem over : Rows.fnExactLockStepRow.holds Tryz.pinned (OpenSpec.ofChange Rows.fnExactLockStepSpec) :=
  OpenClaim.holds_of_wide 5 Tryz.f5 rfl rfl rfl rfl rfl rfl rfl ⟨rfl, rfl, rfl, rfl, rfl⟩ rfl rfl rfl rfl rfl (by kernel_rfl) Tryz.func5 (by kernel_rfl)
    (of_decide_eq_true (by kernel_rfl)) (by unfold Func.isWrapper; first | (rw [if_pos (by decide +kernel)]; kernel_rfl) | (rw [if_neg (by decide +kernel)]; exact ⟨rfl, rfl⟩))
    (fun os started H enc _ => lifted os started H enc)
theorem proved : Rows.FnExactLockStepSaid := over
end Go.Proofs.YtjgggmcnbdjdjaaGreat.fnExactLockStep
namespace Go.Proofs.YtjgggmcnbdjdjaaGreat
theorem fnExactLockStep_holds : Rows.FnExactLockStepSaid := fnExactLockStep.proved
end Go.Proofs.YtjgggmcnbdjdjaaGreat

