/- An op done, the reference's. (written by ygen2.py) -/
import Derived.Test.YtjgggmcnbdjdjaaGreatB2
namespace Go.Proofs.YtjgggmcnbdjdjaaGreat.C
open Go.RowKit Go.Proofs.YtjgggmcnbdjdjaaGreat.K Go.Proofs.YtjgggmcnbdjdjaaGreat.B
attribute [local go_sem] max2_int min2_int max_two min_two i64_and255 i64_and65535 i64_and1
set_option maxRecDepth 20000
set_option linter.unusedVariables false
set_option linter.unusedSimpArgs false
set_option maxRecDepth 20000
theorem CpuD.alu_exec {c : CpuD} {x : MemD} {op arg v : Int} (h : isAlu op = true) : c.execC x op arg v = (c.nx op).alu op arg v := by
  unfold CpuD.execC CpuD.alu
  by_cases hr : isReck op = true
  · rw [if_pos hr, if_pos hr]
  · rw [if_neg hr, if_neg hr, if_pos h]
    have ht : isTurn op = true := by
      simp only [Bool.not_eq_true] at hr
      simp only [isAlu, hr, Bool.false_or, Bool.or_eq_true, beq_iff_eq] at h
      rcases h with ((h | h) | h) | h <;> subst h <;> rfl
    rw [if_pos ht]
theorem MemD.alu_exec {c : CpuD} {x : MemD} {op : Int} (h : isAlu op = true) : x.execM c op = x := by
  refine MemD.flowM_no ?_
  by_cases hr : isReck op = true
  · exact .inl hr
  · right
    simp only [Bool.not_eq_true] at hr
    simp only [isAlu, hr, Bool.false_or, Bool.or_eq_true, beq_iff_eq] at h
    rcases h with ((h | h) | h) | h <;> subst h <;> rfl
set_option maxHeartbeats 32000000 in
theorem spec_Exec (x : MemD) (q : MemP) (c : CpuD) (op arg v : Int) (w : World) (hx : MemIn w x q) (hlen0 : x.ram.length = 512) (hb8 : allB 0 255 x.ram = true) (hs : 0 ≤ c.s ∧ c.s ≤ 255) (ha0 : 0 ≤ c.a) (ha1 : c.a ≤ 255) (hx0 : 0 ≤ c.x) (hx1 : c.x ≤ 255) (hp0 : 0 ≤ c.pc) (hp1 : c.pc ≤ 65535) (harg : op = 6 ∨ op = 7 ∨ op = 8 ∨ op = 9 → 0 ≤ arg ∧ arg ≤ 255) : Calls Tryz.prog 194 #[.agg #[.slice q.ram.A x.ram.length q.ram.c, .int .i64 x.bank], .agg #[.int .i64 c.a, .int .i64 c.x, .int .i64 c.s, .int .i64 c.pc, .bool c.z, .bool c.n, .bool c.c, .bool c.i], .agg #[.int .i64 op, .int .i64 arg], .int .i64 v] w fun e w' => ∃ q' : MemP, e = .returned (.tuple #[.agg #[.slice q'.ram.A (x.execM c op).ram.length q'.ram.c, .int .i64 (x.execM c op).bank], .agg #[.int .i64 (c.execC x op arg v).a, .int .i64 (c.execC x op arg v).x, .int .i64 (c.execC x op arg v).s, .int .i64 (c.execC x op arg v).pc, .bool (c.execC x op arg v).z, .bool (c.execC x op arg v).n, .bool (c.execC x op arg v).c, .bool (c.execC x op arg v).i]]) ∧ St w [] w' [intsA q'.ram (x.execM c op).ram] := by
  have H := St.nil w []
  have HL := Lib.hid hlen0
  have HS := Lib.hid hs
  have HB := Lib.hid hb8
  have hlen2 : x.ram.length ≤ 1048576 := by omega
  clear hlen0 hs hb8
  have hl := opLen_cases op
  have hl0 : 1 ≤ opLen op := by omega
  have hl1 : opLen op ≤ 3 := by omega
  clear hl
  obtain ⟨ca, cx, s, pc, z, n, cc, i⟩ := c
  simp only at H HS ha0 ha1 hx0 hx1 hp0 hp1 ⊢
  by_cases hal : isAlu op = true
  · rw [CpuD.alu_exec hal, MemD.alu_exec hal]
    simp only [CpuD.nx]
    have HF := Lib.hid hal
    clear hal
    go_enter Tryz.func194, Tryz.ntmps194
    go_upto_region 2 with (first | (go_at_call 98; (with_reducible refine (spec_l6Copy x q _ (hx.on H) hlen2).mono ?_); rintro e w1 ⟨q1_, rfl, kk⟩; replace H := H.cN kk; clear kk) | ((with_reducible refine g_box rfl ?_); refine eBa H ?_; clear H; intro g_ W_ H) | ((with_reducible refine g_alloc rfl ?_); refine eNw H ?_; clear H; intro g_ W_ H) | ((with_reducible refine g_load rfl ?_); first | refine eL1 H ?_ | refine eLa H ?_) | ((with_reducible refine g_store rfl ?_); (first | refine eSi H ?_ | refine eSb H ?_ | refine eSa H ?_); clear H; intro W_ H))
    (with_reducible refine g_draw ?_)
    try simp only [Act.put, List.setIfInBounds_toArray, List.set_cons_succ, List.set_cons_zero]
    refine F_begin (ls := #[false, false, false, false, false, false, false, false, false]) (by kernel_rfl) rfl (by kernel_rfl) ?_
    have H_ := H.drew
    (clear H; have H := H_; clear H_)
    refine T_go [(0, 0, 19), (1, 1, 20), (0, 2, 21), (1, 3, 22)] ?_; (repeat (first | refine T_pA ?_ | refine T_rA ?_)); refine T_end ?_
    refine F_eA (ls' := #[true, true, true, true, true, false, false, false, false]) (pend' := [1]) 4 ?_; intro K_ hK_; (conv => (arg 4; arg 1; whnf)); (repeat (first | refine hK_ _ _ rfl ?_ ?_ | (go_big_may; (go_at_call 211; (with_reducible refine (spec_OpLen _ _).mono ?_); rintro e w1 ⟨rfl, hb⟩; (replace H := H.callB hb; clear hb))) | go_step | go_guarded | go_upon | dsimp only)); (focus (refine kept_cA 1 20 ?_; exact kept_nil))
    refine T_go [(0, 5, 24), (0, 6, 25), (0, 7, 26)] ?_; (repeat ((refine' T_pure _ rfl rfl (by kernel_rfl) (Nat.le_of_ble_eq_true (by kernel_rfl)) (fun w2_ K_ hK_ => ?_) ?_; rotate_left 1; focus ((conv => (arg 4; arg 1; whnf)); (repeat (first | exact hK_ rfl | (go_big_may; (go_at_call 180; (with_reducible refine (spec_Addr _ _).mono ?_); rintro e w1 ⟨rfl, rfl⟩)) | go_step | go_guarded | go_upon | dsimp only)); done)))); refine T_end ?_
    refine F_eA (ls' := #[true, true, true, true, true, true, true, true, true]) (pend' := []) 8 ?_; intro K_ hK_; (conv => (arg 4; arg 1; whnf)); (repeat (first | refine hK_ _ _ rfl ?_ ?_ | (go_big_may; (first | ((with_reducible refine g_load rfl ?_); first | refine eL1 H ?_ | refine eLa H ?_) | ((with_reducible refine g_store rfl ?_); (first | refine eSi H ?_ | refine eSb H ?_ | refine eSa H ?_); clear H; intro W_ H))) | go_step | go_guarded | go_upon | dsimp only)); exact kept_nil
    refine F_done (by kernel_rfl) ?_
    go_upto_region 5 with (first | (go_at_call 220; (with_reducible refine (spec_l7Alu ⟨ca, cx, s, (pc + opLen op) % 65536, z, n, cc, i⟩ op arg v _ ha0 ha1 hx0 hx1 harg).mono ?_); rintro e w1 ⟨rfl, hb⟩; rw [HF.out]; (replace H := H.callB hb; clear hb)) | ((with_reducible refine g_box rfl ?_); refine eBa H ?_; clear H; intro g_ W_ H) | ((with_reducible refine g_alloc rfl ?_); refine eNw H ?_; clear H; intro g_ W_ H) | ((with_reducible refine g_load rfl ?_); first | refine eL1 H ?_ | refine eLa H ?_) | ((with_reducible refine g_store rfl ?_); (first | refine eSi H ?_ | refine eSb H ?_ | refine eSa H ?_); clear H; intro W_ H))
    (with_reducible refine g_draw ?_)
    try simp only [Act.put, List.setIfInBounds_toArray, List.set_cons_succ, List.set_cons_zero]
    refine F_begin (ls := #[false, false, false, false]) (by kernel_rfl) rfl (by kernel_rfl) ?_
    have H_ := H.drew
    (clear H; have H := H_; clear H_)
    refine T_go [(1, 0, 35), (1, 1, 36)] ?_; (repeat (refine T_rA ?_)); refine T_end ?_
    refine F_eA (ls' := #[true, true, true, false]) (pend' := [1]) 2 ?_; intro K_ hK_; (conv => (arg 4; arg 1; whnf)); (repeat (first | refine hK_ _ _ rfl ?_ ?_ | (go_big_may; (first | ((with_reducible refine g_load rfl ?_); first | refine eL1 H ?_ | refine eLa H ?_) | ((with_reducible refine g_store rfl ?_); (first | refine eSi H ?_ | refine eSb H ?_ | refine eSa H ?_); clear H; intro W_ H))) | go_step | go_guarded | go_upon | dsimp only)); (focus (refine kept_cA 1 36 ?_; exact kept_nil))
    refine F_eA (ls' := #[true, true, true, true]) (pend' := []) 3 ?_; intro K_ hK_; (conv => (arg 4; arg 1; whnf)); (repeat (first | refine hK_ _ _ rfl ?_ ?_ | (go_big_may; (first | ((with_reducible refine g_load rfl ?_); first | refine eL1 H ?_ | refine eLa H ?_) | ((with_reducible refine g_store rfl ?_); (first | refine eSi H ?_ | refine eSb H ?_ | refine eSa H ?_); clear H; intro W_ H))) | go_step | go_guarded | go_upon | dsimp only)); exact kept_nil
    refine F_done (by kernel_rfl) ?_
    go_wp2_with (first | ((with_reducible refine g_box rfl ?_); refine eBa H ?_; clear H; intro g_ W_ H) | ((with_reducible refine g_alloc rfl ?_); refine eNw H ?_; clear H; intro g_ W_ H) | ((with_reducible refine g_load rfl ?_); first | refine eL1 H ?_ | refine eLa H ?_) | ((with_reducible refine g_store rfl ?_); (first | refine eSi H ?_ | refine eSb H ?_ | refine eSa H ?_); clear H; intro W_ H))
    have H2 := H.take (xs := [intsA q1_.ram _]) pksA
    refine' back2 Tryz.results194 ?_ ?_ rfl ⟨q1_, ?_, H2⟩; rotate_left 2; exact rvA; exact rvA
    rfl
  have hal := (Bool.not_eq_true _).mp hal
  have hc : op = 16 ∨ op = 17 ∨ op = 18 ∨ op = 19 ∨ op = 20 ∨ op = 21 ∨ op = 22 ∨ op = 23 ∨ op = 24 ∨ op = 25 ∨ op = 26 ∨ op = 27 ∨ op = 28 ∨ ((op == 16) = false ∧ (op == 17) = false ∧ (op == 18) = false ∧ (op == 19) = false ∧ (op == 20) = false ∧ (op == 21) = false ∧ (op == 22) = false ∧ (op == 23) = false ∧ (op == 24) = false ∧ (op == 25) = false ∧ (op == 26) = false ∧ (op == 27) = false ∧ (op == 28) = false) := by
    simp only [beq_eq_false_iff_ne]; omega
  rcases hc with rfl | rfl | rfl | rfl | rfl | rfl | rfl | rfl | rfl | rfl | rfl | rfl | rfl | ⟨h0, h1, h2, h3, h4, h5, h6, h7, h8, h9, h10, h11, h12⟩
  · have hz : CpuD.execC ⟨ca, cx, s, pc, z, n, cc, i⟩ x 16 arg v = if z = true then ⟨ca, cx, s, (pc + opLen 16) % 65536, z, n, cc, i⟩ else CpuD.setPc ⟨ca, cx, s, (pc + opLen 16) % 65536, z, n, cc, i⟩ (arg % 65536) := by cases z <;> simp [CpuD.execC, isReck, isTurn, CpuD.flowC, CpuD.turnR, CpuD.nx]
    have hm : x.execM ⟨ca, cx, s, pc, z, n, cc, i⟩ 16 = x := by simp [MemD.execM, MemD.flowM, CpuD.nx]
    rw [hz, hm]
    clear hz hm
    have HF := Lib.hid hal
    clear hal
    cases z
    all_goals
      go_enter Tryz.func194, Tryz.ntmps194
      go_upto_region 2 with (first | (go_at_call 98; (with_reducible refine (spec_l6Copy x q _ (hx.on H) hlen2).mono ?_); rintro e w1 ⟨q1_, rfl, kk⟩; replace H := H.cN kk; clear kk) | ((with_reducible refine g_box rfl ?_); refine eBa H ?_; clear H; intro g_ W_ H) | ((with_reducible refine g_alloc rfl ?_); refine eNw H ?_; clear H; intro g_ W_ H) | ((with_reducible refine g_load rfl ?_); first | refine eL1 H ?_ | refine eLa H ?_) | ((with_reducible refine g_store rfl ?_); (first | refine eSi H ?_ | refine eSb H ?_ | refine eSa H ?_); clear H; intro W_ H))
      (with_reducible refine g_draw ?_)
      try simp only [Act.put, List.setIfInBounds_toArray, List.set_cons_succ, List.set_cons_zero]
      refine F_begin (ls := #[false, false, false, false, false, false, false, false, false]) (by kernel_rfl) rfl (by kernel_rfl) ?_
      have H_ := H.drew
      (clear H; have H := H_; clear H_)
      refine T_go [(0, 0, 19), (1, 1, 20), (0, 2, 21), (1, 3, 22)] ?_; (repeat (first | refine T_pA ?_ | refine T_rA ?_)); refine T_end ?_
      refine F_eA (ls' := #[true, true, true, true, true, false, false, false, false]) (pend' := [1]) 4 ?_; intro K_ hK_; (conv => (arg 4; arg 1; whnf)); (repeat (first | refine hK_ _ _ rfl ?_ ?_ | (go_big_may; (go_at_call 211; (with_reducible refine (spec_OpLen _ _).mono ?_); rintro e w1 ⟨rfl, hb⟩; (replace H := H.callB hb; clear hb))) | go_step | go_guarded | go_upon | dsimp only)); (focus (refine kept_cA 1 20 ?_; exact kept_nil))
      refine T_go [(0, 5, 24), (0, 6, 25), (0, 7, 26)] ?_; (repeat ((refine' T_pure _ rfl rfl (by kernel_rfl) (Nat.le_of_ble_eq_true (by kernel_rfl)) (fun w2_ K_ hK_ => ?_) ?_; rotate_left 1; focus ((conv => (arg 4; arg 1; whnf)); (repeat (first | exact hK_ rfl | (go_big_may; (go_at_call 180; (with_reducible refine (spec_Addr _ _).mono ?_); rintro e w1 ⟨rfl, rfl⟩)) | go_step | go_guarded | go_upon | dsimp only)); done)))); refine T_end ?_
      refine F_eA (ls' := #[true, true, true, true, true, true, true, true, true]) (pend' := []) 8 ?_; intro K_ hK_; (conv => (arg 4; arg 1; whnf)); (repeat (first | refine hK_ _ _ rfl ?_ ?_ | (go_big_may; (first | ((with_reducible refine g_load rfl ?_); first | refine eL1 H ?_ | refine eLa H ?_) | ((with_reducible refine g_store rfl ?_); (first | refine eSi H ?_ | refine eSb H ?_ | refine eSa H ?_); clear H; intro W_ H))) | go_step | go_guarded | go_upon | dsimp only)); exact kept_nil
      refine F_done (by kernel_rfl) ?_
      go_upto_region 33 with (first | (go_at_call 220; (with_reducible refine (spec_l7Alu ⟨ca, cx, s, (pc + opLen 16) % 65536, _, n, cc, i⟩ 16 arg v _ ha0 ha1 hx0 hx1 harg).mono ?_); rintro e w1 ⟨rfl, hb⟩; rw [HF.out]; (replace H := H.callB hb; clear hb)) | (go_at_call 180; (with_reducible refine (spec_Addr _ _).mono ?_); rintro e w1 ⟨rfl, rfl⟩) | ((with_reducible refine g_box rfl ?_); refine eBa H ?_; clear H; intro g_ W_ H) | ((with_reducible refine g_alloc rfl ?_); refine eNw H ?_; clear H; intro g_ W_ H) | ((with_reducible refine g_load rfl ?_); first | refine eL1 H ?_ | refine eLa H ?_) | ((with_reducible refine g_store rfl ?_); (first | refine eSi H ?_ | refine eSb H ?_ | refine eSa H ?_); clear H; intro W_ H))
      (with_reducible refine g_draw ?_)
      try simp only [Act.put, List.setIfInBounds_toArray, List.set_cons_succ, List.set_cons_zero]
      refine F_begin (ls := #[false, false, false, false]) (by kernel_rfl) rfl (by kernel_rfl) ?_
      have H_ := H.drew
      (clear H; have H := H_; clear H_)
      refine T_go [(1, 0, 155), (1, 1, 156)] ?_; (repeat (refine T_rA ?_)); refine T_end ?_
      refine F_eA (ls' := #[true, true, true, false]) (pend' := [1]) 2 ?_; intro K_ hK_; (conv => (arg 4; arg 1; whnf)); (repeat (first | refine hK_ _ _ rfl ?_ ?_ | (go_big_may; (first | ((with_reducible refine g_load rfl ?_); first | refine eL1 H ?_ | refine eLa H ?_) | ((with_reducible refine g_store rfl ?_); (first | refine eSi H ?_ | refine eSb H ?_ | refine eSa H ?_); clear H; intro W_ H))) | go_step | go_guarded | go_upon | dsimp only)); (focus (refine kept_cA 1 156 ?_; exact kept_nil))
      refine F_eA (ls' := #[true, true, true, true]) (pend' := []) 3 ?_; intro K_ hK_; (conv => (arg 4; arg 1; whnf)); (repeat (first | refine hK_ _ _ rfl ?_ ?_ | (go_big_may; (first | ((with_reducible refine g_load rfl ?_); first | refine eL1 H ?_ | refine eLa H ?_) | ((with_reducible refine g_store rfl ?_); (first | refine eSi H ?_ | refine eSb H ?_ | refine eSa H ?_); clear H; intro W_ H))) | go_step | go_guarded | go_upon | dsimp only)); exact kept_nil
      refine F_done (by kernel_rfl) ?_
      go_wp2_with (first | ((with_reducible refine g_box rfl ?_); refine eBa H ?_; clear H; intro g_ W_ H) | ((with_reducible refine g_alloc rfl ?_); refine eNw H ?_; clear H; intro g_ W_ H) | ((with_reducible refine g_load rfl ?_); first | refine eL1 H ?_ | refine eLa H ?_) | ((with_reducible refine g_store rfl ?_); (first | refine eSi H ?_ | refine eSb H ?_ | refine eSa H ?_); clear H; intro W_ H))
      have H2 := H.take (xs := [intsA q1_.ram _]) pksA
      refine' back2 Tryz.results194 ?_ ?_ rfl ⟨q1_, ?_, H2⟩; rotate_left 2; exact rvA; exact rvA
      rfl
  · have hz : CpuD.execC ⟨ca, cx, s, pc, z, n, cc, i⟩ x 17 arg v = if z = true then CpuD.setPc ⟨ca, cx, s, (pc + opLen 17) % 65536, z, n, cc, i⟩ (arg % 65536) else ⟨ca, cx, s, (pc + opLen 17) % 65536, z, n, cc, i⟩ := by cases z <;> simp [CpuD.execC, isReck, isTurn, CpuD.flowC, CpuD.turnR, CpuD.nx]
    have hm : x.execM ⟨ca, cx, s, pc, z, n, cc, i⟩ 17 = x := by simp [MemD.execM, MemD.flowM, CpuD.nx]
    rw [hz, hm]
    clear hz hm
    have HF := Lib.hid hal
    clear hal
    cases z
    all_goals
      go_enter Tryz.func194, Tryz.ntmps194
      go_upto_region 2 with (first | (go_at_call 98; (with_reducible refine (spec_l6Copy x q _ (hx.on H) hlen2).mono ?_); rintro e w1 ⟨q1_, rfl, kk⟩; replace H := H.cN kk; clear kk) | ((with_reducible refine g_box rfl ?_); refine eBa H ?_; clear H; intro g_ W_ H) | ((with_reducible refine g_alloc rfl ?_); refine eNw H ?_; clear H; intro g_ W_ H) | ((with_reducible refine g_load rfl ?_); first | refine eL1 H ?_ | refine eLa H ?_) | ((with_reducible refine g_store rfl ?_); (first | refine eSi H ?_ | refine eSb H ?_ | refine eSa H ?_); clear H; intro W_ H))
      (with_reducible refine g_draw ?_)
      try simp only [Act.put, List.setIfInBounds_toArray, List.set_cons_succ, List.set_cons_zero]
      refine F_begin (ls := #[false, false, false, false, false, false, false, false, false]) (by kernel_rfl) rfl (by kernel_rfl) ?_
      have H_ := H.drew
      (clear H; have H := H_; clear H_)
      refine T_go [(0, 0, 19), (1, 1, 20), (0, 2, 21), (1, 3, 22)] ?_; (repeat (first | refine T_pA ?_ | refine T_rA ?_)); refine T_end ?_
      refine F_eA (ls' := #[true, true, true, true, true, false, false, false, false]) (pend' := [1]) 4 ?_; intro K_ hK_; (conv => (arg 4; arg 1; whnf)); (repeat (first | refine hK_ _ _ rfl ?_ ?_ | (go_big_may; (go_at_call 211; (with_reducible refine (spec_OpLen _ _).mono ?_); rintro e w1 ⟨rfl, hb⟩; (replace H := H.callB hb; clear hb))) | go_step | go_guarded | go_upon | dsimp only)); (focus (refine kept_cA 1 20 ?_; exact kept_nil))
      refine T_go [(0, 5, 24), (0, 6, 25), (0, 7, 26)] ?_; (repeat ((refine' T_pure _ rfl rfl (by kernel_rfl) (Nat.le_of_ble_eq_true (by kernel_rfl)) (fun w2_ K_ hK_ => ?_) ?_; rotate_left 1; focus ((conv => (arg 4; arg 1; whnf)); (repeat (first | exact hK_ rfl | (go_big_may; (go_at_call 180; (with_reducible refine (spec_Addr _ _).mono ?_); rintro e w1 ⟨rfl, rfl⟩)) | go_step | go_guarded | go_upon | dsimp only)); done)))); refine T_end ?_
      refine F_eA (ls' := #[true, true, true, true, true, true, true, true, true]) (pend' := []) 8 ?_; intro K_ hK_; (conv => (arg 4; arg 1; whnf)); (repeat (first | refine hK_ _ _ rfl ?_ ?_ | (go_big_may; (first | ((with_reducible refine g_load rfl ?_); first | refine eL1 H ?_ | refine eLa H ?_) | ((with_reducible refine g_store rfl ?_); (first | refine eSi H ?_ | refine eSb H ?_ | refine eSa H ?_); clear H; intro W_ H))) | go_step | go_guarded | go_upon | dsimp only)); exact kept_nil
      refine F_done (by kernel_rfl) ?_
      go_upto_region 33 with (first | (go_at_call 220; (with_reducible refine (spec_l7Alu ⟨ca, cx, s, (pc + opLen 17) % 65536, _, n, cc, i⟩ 17 arg v _ ha0 ha1 hx0 hx1 harg).mono ?_); rintro e w1 ⟨rfl, hb⟩; rw [HF.out]; (replace H := H.callB hb; clear hb)) | (go_at_call 180; (with_reducible refine (spec_Addr _ _).mono ?_); rintro e w1 ⟨rfl, rfl⟩) | ((with_reducible refine g_box rfl ?_); refine eBa H ?_; clear H; intro g_ W_ H) | ((with_reducible refine g_alloc rfl ?_); refine eNw H ?_; clear H; intro g_ W_ H) | ((with_reducible refine g_load rfl ?_); first | refine eL1 H ?_ | refine eLa H ?_) | ((with_reducible refine g_store rfl ?_); (first | refine eSi H ?_ | refine eSb H ?_ | refine eSa H ?_); clear H; intro W_ H))
      (with_reducible refine g_draw ?_)
      try simp only [Act.put, List.setIfInBounds_toArray, List.set_cons_succ, List.set_cons_zero]
      refine F_begin (ls := #[false, false, false, false]) (by kernel_rfl) rfl (by kernel_rfl) ?_
      have H_ := H.drew
      (clear H; have H := H_; clear H_)
      refine T_go [(1, 0, 155), (1, 1, 156)] ?_; (repeat (refine T_rA ?_)); refine T_end ?_
      refine F_eA (ls' := #[true, true, true, false]) (pend' := [1]) 2 ?_; intro K_ hK_; (conv => (arg 4; arg 1; whnf)); (repeat (first | refine hK_ _ _ rfl ?_ ?_ | (go_big_may; (first | ((with_reducible refine g_load rfl ?_); first | refine eL1 H ?_ | refine eLa H ?_) | ((with_reducible refine g_store rfl ?_); (first | refine eSi H ?_ | refine eSb H ?_ | refine eSa H ?_); clear H; intro W_ H))) | go_step | go_guarded | go_upon | dsimp only)); (focus (refine kept_cA 1 156 ?_; exact kept_nil))
      refine F_eA (ls' := #[true, true, true, true]) (pend' := []) 3 ?_; intro K_ hK_; (conv => (arg 4; arg 1; whnf)); (repeat (first | refine hK_ _ _ rfl ?_ ?_ | (go_big_may; (first | ((with_reducible refine g_load rfl ?_); first | refine eL1 H ?_ | refine eLa H ?_) | ((with_reducible refine g_store rfl ?_); (first | refine eSi H ?_ | refine eSb H ?_ | refine eSa H ?_); clear H; intro W_ H))) | go_step | go_guarded | go_upon | dsimp only)); exact kept_nil
      refine F_done (by kernel_rfl) ?_
      go_wp2_with (first | ((with_reducible refine g_box rfl ?_); refine eBa H ?_; clear H; intro g_ W_ H) | ((with_reducible refine g_alloc rfl ?_); refine eNw H ?_; clear H; intro g_ W_ H) | ((with_reducible refine g_load rfl ?_); first | refine eL1 H ?_ | refine eLa H ?_) | ((with_reducible refine g_store rfl ?_); (first | refine eSi H ?_ | refine eSb H ?_ | refine eSa H ?_); clear H; intro W_ H))
      have H2 := H.take (xs := [intsA q1_.ram _]) pksA
      refine' back2 Tryz.results194 ?_ ?_ rfl ⟨q1_, ?_, H2⟩; rotate_left 2; exact rvA; exact rvA
      rfl
  · have hz : CpuD.execC ⟨ca, cx, s, pc, z, n, cc, i⟩ x 18 arg v = if cc = true then CpuD.setPc ⟨ca, cx, s, (pc + opLen 18) % 65536, z, n, cc, i⟩ (arg % 65536) else ⟨ca, cx, s, (pc + opLen 18) % 65536, z, n, cc, i⟩ := by cases cc <;> simp [CpuD.execC, isReck, isTurn, CpuD.flowC, CpuD.turnR, CpuD.nx]
    have hm : x.execM ⟨ca, cx, s, pc, z, n, cc, i⟩ 18 = x := by simp [MemD.execM, MemD.flowM, CpuD.nx]
    rw [hz, hm]
    clear hz hm
    have HF := Lib.hid hal
    clear hal
    cases cc
    all_goals
      go_enter Tryz.func194, Tryz.ntmps194
      go_upto_region 2 with (first | (go_at_call 98; (with_reducible refine (spec_l6Copy x q _ (hx.on H) hlen2).mono ?_); rintro e w1 ⟨q1_, rfl, kk⟩; replace H := H.cN kk; clear kk) | ((with_reducible refine g_box rfl ?_); refine eBa H ?_; clear H; intro g_ W_ H) | ((with_reducible refine g_alloc rfl ?_); refine eNw H ?_; clear H; intro g_ W_ H) | ((with_reducible refine g_load rfl ?_); first | refine eL1 H ?_ | refine eLa H ?_) | ((with_reducible refine g_store rfl ?_); (first | refine eSi H ?_ | refine eSb H ?_ | refine eSa H ?_); clear H; intro W_ H))
      (with_reducible refine g_draw ?_)
      try simp only [Act.put, List.setIfInBounds_toArray, List.set_cons_succ, List.set_cons_zero]
      refine F_begin (ls := #[false, false, false, false, false, false, false, false, false]) (by kernel_rfl) rfl (by kernel_rfl) ?_
      have H_ := H.drew
      (clear H; have H := H_; clear H_)
      refine T_go [(0, 0, 19), (1, 1, 20), (0, 2, 21), (1, 3, 22)] ?_; (repeat (first | refine T_pA ?_ | refine T_rA ?_)); refine T_end ?_
      refine F_eA (ls' := #[true, true, true, true, true, false, false, false, false]) (pend' := [1]) 4 ?_; intro K_ hK_; (conv => (arg 4; arg 1; whnf)); (repeat (first | refine hK_ _ _ rfl ?_ ?_ | (go_big_may; (go_at_call 211; (with_reducible refine (spec_OpLen _ _).mono ?_); rintro e w1 ⟨rfl, hb⟩; (replace H := H.callB hb; clear hb))) | go_step | go_guarded | go_upon | dsimp only)); (focus (refine kept_cA 1 20 ?_; exact kept_nil))
      refine T_go [(0, 5, 24), (0, 6, 25), (0, 7, 26)] ?_; (repeat ((refine' T_pure _ rfl rfl (by kernel_rfl) (Nat.le_of_ble_eq_true (by kernel_rfl)) (fun w2_ K_ hK_ => ?_) ?_; rotate_left 1; focus ((conv => (arg 4; arg 1; whnf)); (repeat (first | exact hK_ rfl | (go_big_may; (go_at_call 180; (with_reducible refine (spec_Addr _ _).mono ?_); rintro e w1 ⟨rfl, rfl⟩)) | go_step | go_guarded | go_upon | dsimp only)); done)))); refine T_end ?_
      refine F_eA (ls' := #[true, true, true, true, true, true, true, true, true]) (pend' := []) 8 ?_; intro K_ hK_; (conv => (arg 4; arg 1; whnf)); (repeat (first | refine hK_ _ _ rfl ?_ ?_ | (go_big_may; (first | ((with_reducible refine g_load rfl ?_); first | refine eL1 H ?_ | refine eLa H ?_) | ((with_reducible refine g_store rfl ?_); (first | refine eSi H ?_ | refine eSb H ?_ | refine eSa H ?_); clear H; intro W_ H))) | go_step | go_guarded | go_upon | dsimp only)); exact kept_nil
      refine F_done (by kernel_rfl) ?_
      go_upto_region 33 with (first | (go_at_call 220; (with_reducible refine (spec_l7Alu ⟨ca, cx, s, (pc + opLen 18) % 65536, z, n, _, i⟩ 18 arg v _ ha0 ha1 hx0 hx1 harg).mono ?_); rintro e w1 ⟨rfl, hb⟩; rw [HF.out]; (replace H := H.callB hb; clear hb)) | (go_at_call 180; (with_reducible refine (spec_Addr _ _).mono ?_); rintro e w1 ⟨rfl, rfl⟩) | ((with_reducible refine g_box rfl ?_); refine eBa H ?_; clear H; intro g_ W_ H) | ((with_reducible refine g_alloc rfl ?_); refine eNw H ?_; clear H; intro g_ W_ H) | ((with_reducible refine g_load rfl ?_); first | refine eL1 H ?_ | refine eLa H ?_) | ((with_reducible refine g_store rfl ?_); (first | refine eSi H ?_ | refine eSb H ?_ | refine eSa H ?_); clear H; intro W_ H))
      (with_reducible refine g_draw ?_)
      try simp only [Act.put, List.setIfInBounds_toArray, List.set_cons_succ, List.set_cons_zero]
      refine F_begin (ls := #[false, false, false, false]) (by kernel_rfl) rfl (by kernel_rfl) ?_
      have H_ := H.drew
      (clear H; have H := H_; clear H_)
      refine T_go [(1, 0, 155), (1, 1, 156)] ?_; (repeat (refine T_rA ?_)); refine T_end ?_
      refine F_eA (ls' := #[true, true, true, false]) (pend' := [1]) 2 ?_; intro K_ hK_; (conv => (arg 4; arg 1; whnf)); (repeat (first | refine hK_ _ _ rfl ?_ ?_ | (go_big_may; (first | ((with_reducible refine g_load rfl ?_); first | refine eL1 H ?_ | refine eLa H ?_) | ((with_reducible refine g_store rfl ?_); (first | refine eSi H ?_ | refine eSb H ?_ | refine eSa H ?_); clear H; intro W_ H))) | go_step | go_guarded | go_upon | dsimp only)); (focus (refine kept_cA 1 156 ?_; exact kept_nil))
      refine F_eA (ls' := #[true, true, true, true]) (pend' := []) 3 ?_; intro K_ hK_; (conv => (arg 4; arg 1; whnf)); (repeat (first | refine hK_ _ _ rfl ?_ ?_ | (go_big_may; (first | ((with_reducible refine g_load rfl ?_); first | refine eL1 H ?_ | refine eLa H ?_) | ((with_reducible refine g_store rfl ?_); (first | refine eSi H ?_ | refine eSb H ?_ | refine eSa H ?_); clear H; intro W_ H))) | go_step | go_guarded | go_upon | dsimp only)); exact kept_nil
      refine F_done (by kernel_rfl) ?_
      go_wp2_with (first | ((with_reducible refine g_box rfl ?_); refine eBa H ?_; clear H; intro g_ W_ H) | ((with_reducible refine g_alloc rfl ?_); refine eNw H ?_; clear H; intro g_ W_ H) | ((with_reducible refine g_load rfl ?_); first | refine eL1 H ?_ | refine eLa H ?_) | ((with_reducible refine g_store rfl ?_); (first | refine eSi H ?_ | refine eSb H ?_ | refine eSa H ?_); clear H; intro W_ H))
      have H2 := H.take (xs := [intsA q1_.ram _]) pksA
      refine' back2 Tryz.results194 ?_ ?_ rfl ⟨q1_, ?_, H2⟩; rotate_left 2; exact rvA; exact rvA
      rfl
  · have hz : CpuD.execC ⟨ca, cx, s, pc, z, n, cc, i⟩ x 19 arg v = CpuD.setPc ⟨ca, cx, s, (pc + opLen 19) % 65536, z, n, cc, i⟩ (arg % 65536) := by simp [CpuD.execC, isReck, isTurn, CpuD.flowC, CpuD.turnR, CpuD.nx]
    have hm : x.execM ⟨ca, cx, s, pc, z, n, cc, i⟩ 19 = x := by simp [MemD.execM, MemD.flowM, CpuD.nx]
    rw [hz, hm]
    clear hz hm
    have HF := Lib.hid hal
    clear hal
    go_enter Tryz.func194, Tryz.ntmps194
    go_upto_region 2 with (first | (go_at_call 98; (with_reducible refine (spec_l6Copy x q _ (hx.on H) hlen2).mono ?_); rintro e w1 ⟨q1_, rfl, kk⟩; replace H := H.cN kk; clear kk) | ((with_reducible refine g_box rfl ?_); refine eBa H ?_; clear H; intro g_ W_ H) | ((with_reducible refine g_alloc rfl ?_); refine eNw H ?_; clear H; intro g_ W_ H) | ((with_reducible refine g_load rfl ?_); first | refine eL1 H ?_ | refine eLa H ?_) | ((with_reducible refine g_store rfl ?_); (first | refine eSi H ?_ | refine eSb H ?_ | refine eSa H ?_); clear H; intro W_ H))
    (with_reducible refine g_draw ?_)
    try simp only [Act.put, List.setIfInBounds_toArray, List.set_cons_succ, List.set_cons_zero]
    refine F_begin (ls := #[false, false, false, false, false, false, false, false, false]) (by kernel_rfl) rfl (by kernel_rfl) ?_
    have H_ := H.drew
    (clear H; have H := H_; clear H_)
    refine T_go [(0, 0, 19), (1, 1, 20), (0, 2, 21), (1, 3, 22)] ?_; (repeat (first | refine T_pA ?_ | refine T_rA ?_)); refine T_end ?_
    refine F_eA (ls' := #[true, true, true, true, true, false, false, false, false]) (pend' := [1]) 4 ?_; intro K_ hK_; (conv => (arg 4; arg 1; whnf)); (repeat (first | refine hK_ _ _ rfl ?_ ?_ | (go_big_may; (go_at_call 211; (with_reducible refine (spec_OpLen _ _).mono ?_); rintro e w1 ⟨rfl, hb⟩; (replace H := H.callB hb; clear hb))) | go_step | go_guarded | go_upon | dsimp only)); (focus (refine kept_cA 1 20 ?_; exact kept_nil))
    refine T_go [(0, 5, 24), (0, 6, 25), (0, 7, 26)] ?_; (repeat ((refine' T_pure _ rfl rfl (by kernel_rfl) (Nat.le_of_ble_eq_true (by kernel_rfl)) (fun w2_ K_ hK_ => ?_) ?_; rotate_left 1; focus ((conv => (arg 4; arg 1; whnf)); (repeat (first | exact hK_ rfl | (go_big_may; (go_at_call 180; (with_reducible refine (spec_Addr _ _).mono ?_); rintro e w1 ⟨rfl, rfl⟩)) | go_step | go_guarded | go_upon | dsimp only)); done)))); refine T_end ?_
    refine F_eA (ls' := #[true, true, true, true, true, true, true, true, true]) (pend' := []) 8 ?_; intro K_ hK_; (conv => (arg 4; arg 1; whnf)); (repeat (first | refine hK_ _ _ rfl ?_ ?_ | (go_big_may; (first | ((with_reducible refine g_load rfl ?_); first | refine eL1 H ?_ | refine eLa H ?_) | ((with_reducible refine g_store rfl ?_); (first | refine eSi H ?_ | refine eSb H ?_ | refine eSa H ?_); clear H; intro W_ H))) | go_step | go_guarded | go_upon | dsimp only)); exact kept_nil
    refine F_done (by kernel_rfl) ?_
    go_upto_region 33 with (first | (go_at_call 220; (with_reducible refine (spec_l7Alu ⟨ca, cx, s, (pc + opLen 19) % 65536, z, n, cc, i⟩ 19 arg v _ ha0 ha1 hx0 hx1 harg).mono ?_); rintro e w1 ⟨rfl, hb⟩; rw [HF.out]; (replace H := H.callB hb; clear hb)) | (go_at_call 180; (with_reducible refine (spec_Addr _ _).mono ?_); rintro e w1 ⟨rfl, rfl⟩) | ((with_reducible refine g_box rfl ?_); refine eBa H ?_; clear H; intro g_ W_ H) | ((with_reducible refine g_alloc rfl ?_); refine eNw H ?_; clear H; intro g_ W_ H) | ((with_reducible refine g_load rfl ?_); first | refine eL1 H ?_ | refine eLa H ?_) | ((with_reducible refine g_store rfl ?_); (first | refine eSi H ?_ | refine eSb H ?_ | refine eSa H ?_); clear H; intro W_ H))
    (with_reducible refine g_draw ?_)
    try simp only [Act.put, List.setIfInBounds_toArray, List.set_cons_succ, List.set_cons_zero]
    refine F_begin (ls := #[false, false, false, false]) (by kernel_rfl) rfl (by kernel_rfl) ?_
    have H_ := H.drew
    (clear H; have H := H_; clear H_)
    refine T_go [(1, 0, 155), (1, 1, 156)] ?_; (repeat (refine T_rA ?_)); refine T_end ?_
    refine F_eA (ls' := #[true, true, true, false]) (pend' := [1]) 2 ?_; intro K_ hK_; (conv => (arg 4; arg 1; whnf)); (repeat (first | refine hK_ _ _ rfl ?_ ?_ | (go_big_may; (first | ((with_reducible refine g_load rfl ?_); first | refine eL1 H ?_ | refine eLa H ?_) | ((with_reducible refine g_store rfl ?_); (first | refine eSi H ?_ | refine eSb H ?_ | refine eSa H ?_); clear H; intro W_ H))) | go_step | go_guarded | go_upon | dsimp only)); (focus (refine kept_cA 1 156 ?_; exact kept_nil))
    refine F_eA (ls' := #[true, true, true, true]) (pend' := []) 3 ?_; intro K_ hK_; (conv => (arg 4; arg 1; whnf)); (repeat (first | refine hK_ _ _ rfl ?_ ?_ | (go_big_may; (first | ((with_reducible refine g_load rfl ?_); first | refine eL1 H ?_ | refine eLa H ?_) | ((with_reducible refine g_store rfl ?_); (first | refine eSi H ?_ | refine eSb H ?_ | refine eSa H ?_); clear H; intro W_ H))) | go_step | go_guarded | go_upon | dsimp only)); exact kept_nil
    refine F_done (by kernel_rfl) ?_
    go_wp2_with (first | ((with_reducible refine g_box rfl ?_); refine eBa H ?_; clear H; intro g_ W_ H) | ((with_reducible refine g_alloc rfl ?_); refine eNw H ?_; clear H; intro g_ W_ H) | ((with_reducible refine g_load rfl ?_); first | refine eL1 H ?_ | refine eLa H ?_) | ((with_reducible refine g_store rfl ?_); (first | refine eSi H ?_ | refine eSb H ?_ | refine eSa H ?_); clear H; intro W_ H))
    have H2 := H.take (xs := [intsA q1_.ram _]) pksA
    refine' back2 Tryz.results194 ?_ ?_ rfl ⟨q1_, ?_, H2⟩; rotate_left 2; exact rvA; exact rvA
    rfl
  · have hz : CpuD.execC ⟨ca, cx, s, pc, z, n, cc, i⟩ x 20 arg v = (CpuD.dn (CpuD.dn ⟨ca, cx, s, (pc + opLen 20) % 65536, z, n, cc, i⟩)).setPc (arg % 65536) := by simp [CpuD.execC, isReck, isTurn, CpuD.flowC, CpuD.turnR, CpuD.nx]
    have hm : x.execM ⟨ca, cx, s, pc, z, n, cc, i⟩ 20 = x.pushPc ⟨ca, cx, s, (pc + opLen 20) % 65536, z, n, cc, i⟩ := by simp [MemD.execM, MemD.flowM, CpuD.nx]
    rw [hz, hm]
    clear hz hm
    have HF := Lib.hid hal
    clear hal
    go_enter Tryz.func194, Tryz.ntmps194
    go_upto_region 2 with (first | (go_at_call 98; (with_reducible refine (spec_l6Copy x q _ (hx.on H) hlen2).mono ?_); rintro e w1 ⟨q1_, rfl, kk⟩; replace H := H.cN kk; clear kk) | ((with_reducible refine g_box rfl ?_); refine eBa H ?_; clear H; intro g_ W_ H) | ((with_reducible refine g_alloc rfl ?_); refine eNw H ?_; clear H; intro g_ W_ H) | ((with_reducible refine g_load rfl ?_); first | refine eL1 H ?_ | refine eLa H ?_) | ((with_reducible refine g_store rfl ?_); (first | refine eSi H ?_ | refine eSb H ?_ | refine eSa H ?_); clear H; intro W_ H))
    (with_reducible refine g_draw ?_)
    try simp only [Act.put, List.setIfInBounds_toArray, List.set_cons_succ, List.set_cons_zero]
    refine F_begin (ls := #[false, false, false, false, false, false, false, false, false]) (by kernel_rfl) rfl (by kernel_rfl) ?_
    have H_ := H.drew
    (clear H; have H := H_; clear H_)
    refine T_go [(0, 0, 19), (1, 1, 20), (0, 2, 21), (1, 3, 22)] ?_; (repeat (first | refine T_pA ?_ | refine T_rA ?_)); refine T_end ?_
    refine F_eA (ls' := #[true, true, true, true, true, false, false, false, false]) (pend' := [1]) 4 ?_; intro K_ hK_; (conv => (arg 4; arg 1; whnf)); (repeat (first | refine hK_ _ _ rfl ?_ ?_ | (go_big_may; (go_at_call 211; (with_reducible refine (spec_OpLen _ _).mono ?_); rintro e w1 ⟨rfl, hb⟩; (replace H := H.callB hb; clear hb))) | go_step | go_guarded | go_upon | dsimp only)); (focus (refine kept_cA 1 20 ?_; exact kept_nil))
    refine T_go [(0, 5, 24), (0, 6, 25), (0, 7, 26)] ?_; (repeat ((refine' T_pure _ rfl rfl (by kernel_rfl) (Nat.le_of_ble_eq_true (by kernel_rfl)) (fun w2_ K_ hK_ => ?_) ?_; rotate_left 1; focus ((conv => (arg 4; arg 1; whnf)); (repeat (first | exact hK_ rfl | (go_big_may; (go_at_call 180; (with_reducible refine (spec_Addr _ _).mono ?_); rintro e w1 ⟨rfl, rfl⟩)) | go_step | go_guarded | go_upon | dsimp only)); done)))); refine T_end ?_
    refine F_eA (ls' := #[true, true, true, true, true, true, true, true, true]) (pend' := []) 8 ?_; intro K_ hK_; (conv => (arg 4; arg 1; whnf)); (repeat (first | refine hK_ _ _ rfl ?_ ?_ | (go_big_may; (first | ((with_reducible refine g_load rfl ?_); first | refine eL1 H ?_ | refine eLa H ?_) | ((with_reducible refine g_store rfl ?_); (first | refine eSi H ?_ | refine eSb H ?_ | refine eSa H ?_); clear H; intro W_ H))) | go_step | go_guarded | go_upon | dsimp only)); exact kept_nil
    refine F_done (by kernel_rfl) ?_
    go_upto_region 33 with (first | (go_at_call 220; (with_reducible refine (spec_l7Alu ⟨ca, cx, s, (pc + opLen 20) % 65536, z, n, cc, i⟩ 20 arg v _ ha0 ha1 hx0 hx1 harg).mono ?_); rintro e w1 ⟨rfl, hb⟩; rw [HF.out]; (replace H := H.callB hb; clear hb)) | (go_at_call 180; (with_reducible refine (spec_Addr _ _).mono ?_); rintro e w1 ⟨rfl, rfl⟩) | (go_at_call 219; (with_reducible refine (spec_Push x q1_ ⟨ca, cx, s, (pc + opLen 20) % 65536, z, n, cc, i⟩ _ _ ⟨InI.of (H.get (x := intsA q1_.ram x.ram) pkA)⟩ HL.out HS.out).mono ?_); rintro e w1 ⟨q2_, rfl, kk⟩; replace H := H.cN kk; clear kk) | (go_at_call 219; (with_reducible refine (spec_Push (x.push ⟨ca, cx, s, (pc + opLen 20) % 65536, z, n, cc, i⟩ _) q2_ (CpuD.dn ⟨ca, cx, s, (pc + opLen 20) % 65536, z, n, cc, i⟩) _ _ ⟨InI.of (H.get (x := intsA q2_.ram (x.push ⟨ca, cx, s, (pc + opLen 20) % 65536, z, n, cc, i⟩ _).ram) pkA)⟩ (by rw [MemD.push_len]; exact HL.out) (CpuD.dn_s _)).mono ?_); rintro e w1 ⟨q3_, rfl, kk⟩; replace H := H.cN kk; clear kk) | ((with_reducible refine g_box rfl ?_); refine eBa H ?_; clear H; intro g_ W_ H) | ((with_reducible refine g_alloc rfl ?_); refine eNw H ?_; clear H; intro g_ W_ H) | ((with_reducible refine g_load rfl ?_); first | refine eL1 H ?_ | refine eLa H ?_) | ((with_reducible refine g_store rfl ?_); (first | refine eSi H ?_ | refine eSb H ?_ | refine eSa H ?_); clear H; intro W_ H))
    (with_reducible refine g_draw ?_)
    try simp only [Act.put, List.setIfInBounds_toArray, List.set_cons_succ, List.set_cons_zero]
    refine F_begin (ls := #[false, false, false, false]) (by kernel_rfl) rfl (by kernel_rfl) ?_
    have H_ := H.drew
    (clear H; have H := H_; clear H_)
    refine T_go [(1, 0, 155), (1, 1, 156)] ?_; (repeat (refine T_rA ?_)); refine T_end ?_
    refine F_eA (ls' := #[true, true, true, false]) (pend' := [1]) 2 ?_; intro K_ hK_; (conv => (arg 4; arg 1; whnf)); (repeat (first | refine hK_ _ _ rfl ?_ ?_ | (go_big_may; (first | ((with_reducible refine g_load rfl ?_); first | refine eL1 H ?_ | refine eLa H ?_) | ((with_reducible refine g_store rfl ?_); (first | refine eSi H ?_ | refine eSb H ?_ | refine eSa H ?_); clear H; intro W_ H))) | go_step | go_guarded | go_upon | dsimp only)); (focus (refine kept_cA 1 156 ?_; exact kept_nil))
    refine F_eA (ls' := #[true, true, true, true]) (pend' := []) 3 ?_; intro K_ hK_; (conv => (arg 4; arg 1; whnf)); (repeat (first | refine hK_ _ _ rfl ?_ ?_ | (go_big_may; (first | ((with_reducible refine g_load rfl ?_); first | refine eL1 H ?_ | refine eLa H ?_) | ((with_reducible refine g_store rfl ?_); (first | refine eSi H ?_ | refine eSb H ?_ | refine eSa H ?_); clear H; intro W_ H))) | go_step | go_guarded | go_upon | dsimp only)); exact kept_nil
    refine F_done (by kernel_rfl) ?_
    go_wp2_with (first | ((with_reducible refine g_box rfl ?_); refine eBa H ?_; clear H; intro g_ W_ H) | ((with_reducible refine g_alloc rfl ?_); refine eNw H ?_; clear H; intro g_ W_ H) | ((with_reducible refine g_load rfl ?_); first | refine eL1 H ?_ | refine eLa H ?_) | ((with_reducible refine g_store rfl ?_); (first | refine eSi H ?_ | refine eSb H ?_ | refine eSa H ?_); clear H; intro W_ H))
    have H2 := H.take (xs := [intsA q3_.ram _]) pksA
    refine' back2 Tryz.results194 ?_ ?_ rfl ⟨q3_, ?_, H2⟩; rotate_left 2; exact rvA; exact rvA
    rfl
  · have hz : CpuD.execC ⟨ca, cx, s, pc, z, n, cc, i⟩ x 21 arg v = CpuD.back ⟨ca, cx, s, (pc + opLen 21) % 65536, z, n, cc, i⟩ x := by simp [CpuD.execC, isReck, isTurn, CpuD.flowC, CpuD.turnR, CpuD.nx]
    have hm : x.execM ⟨ca, cx, s, pc, z, n, cc, i⟩ 21 = x := by simp [MemD.execM, MemD.flowM, CpuD.nx]
    rw [hz, hm]
    clear hz hm
    have HF := Lib.hid hal
    clear hal
    go_enter Tryz.func194, Tryz.ntmps194
    go_upto_region 2 with (first | (go_at_call 98; (with_reducible refine (spec_l6Copy x q _ (hx.on H) hlen2).mono ?_); rintro e w1 ⟨q1_, rfl, kk⟩; replace H := H.cN kk; clear kk) | ((with_reducible refine g_box rfl ?_); refine eBa H ?_; clear H; intro g_ W_ H) | ((with_reducible refine g_alloc rfl ?_); refine eNw H ?_; clear H; intro g_ W_ H) | ((with_reducible refine g_load rfl ?_); first | refine eL1 H ?_ | refine eLa H ?_) | ((with_reducible refine g_store rfl ?_); (first | refine eSi H ?_ | refine eSb H ?_ | refine eSa H ?_); clear H; intro W_ H))
    (with_reducible refine g_draw ?_)
    try simp only [Act.put, List.setIfInBounds_toArray, List.set_cons_succ, List.set_cons_zero]
    refine F_begin (ls := #[false, false, false, false, false, false, false, false, false]) (by kernel_rfl) rfl (by kernel_rfl) ?_
    have H_ := H.drew
    (clear H; have H := H_; clear H_)
    refine T_go [(0, 0, 19), (1, 1, 20), (0, 2, 21), (1, 3, 22)] ?_; (repeat (first | refine T_pA ?_ | refine T_rA ?_)); refine T_end ?_
    refine F_eA (ls' := #[true, true, true, true, true, false, false, false, false]) (pend' := [1]) 4 ?_; intro K_ hK_; (conv => (arg 4; arg 1; whnf)); (repeat (first | refine hK_ _ _ rfl ?_ ?_ | (go_big_may; (go_at_call 211; (with_reducible refine (spec_OpLen _ _).mono ?_); rintro e w1 ⟨rfl, hb⟩; (replace H := H.callB hb; clear hb))) | go_step | go_guarded | go_upon | dsimp only)); (focus (refine kept_cA 1 20 ?_; exact kept_nil))
    refine T_go [(0, 5, 24), (0, 6, 25), (0, 7, 26)] ?_; (repeat ((refine' T_pure _ rfl rfl (by kernel_rfl) (Nat.le_of_ble_eq_true (by kernel_rfl)) (fun w2_ K_ hK_ => ?_) ?_; rotate_left 1; focus ((conv => (arg 4; arg 1; whnf)); (repeat (first | exact hK_ rfl | (go_big_may; (go_at_call 180; (with_reducible refine (spec_Addr _ _).mono ?_); rintro e w1 ⟨rfl, rfl⟩)) | go_step | go_guarded | go_upon | dsimp only)); done)))); refine T_end ?_
    refine F_eA (ls' := #[true, true, true, true, true, true, true, true, true]) (pend' := []) 8 ?_; intro K_ hK_; (conv => (arg 4; arg 1; whnf)); (repeat (first | refine hK_ _ _ rfl ?_ ?_ | (go_big_may; (first | ((with_reducible refine g_load rfl ?_); first | refine eL1 H ?_ | refine eLa H ?_) | ((with_reducible refine g_store rfl ?_); (first | refine eSi H ?_ | refine eSb H ?_ | refine eSa H ?_); clear H; intro W_ H))) | go_step | go_guarded | go_upon | dsimp only)); exact kept_nil
    refine F_done (by kernel_rfl) ?_
    go_upto_region 33 with (first | (go_at_call 220; (with_reducible refine (spec_l7Alu ⟨ca, cx, s, (pc + opLen 21) % 65536, z, n, cc, i⟩ 21 arg v _ ha0 ha1 hx0 hx1 harg).mono ?_); rintro e w1 ⟨rfl, hb⟩; rw [HF.out]; (replace H := H.callB hb; clear hb)) | (go_at_call 180; (with_reducible refine (spec_Addr _ _).mono ?_); rintro e w1 ⟨rfl, rfl⟩) | (go_at_call 221; (with_reducible refine (spec_l7Back x q ⟨ca, cx, s, (pc + opLen 21) % 65536, z, n, cc, i⟩ _ (hx.on H) HL.out HB.out HS.out).mono ?_); rintro e w1 ⟨rfl, hb⟩; (replace H := H.callB hb; clear hb)) | ((with_reducible refine g_box rfl ?_); refine eBa H ?_; clear H; intro g_ W_ H) | ((with_reducible refine g_alloc rfl ?_); refine eNw H ?_; clear H; intro g_ W_ H) | ((with_reducible refine g_load rfl ?_); first | refine eL1 H ?_ | refine eLa H ?_) | ((with_reducible refine g_store rfl ?_); (first | refine eSi H ?_ | refine eSb H ?_ | refine eSa H ?_); clear H; intro W_ H))
    (with_reducible refine g_draw ?_)
    try simp only [Act.put, List.setIfInBounds_toArray, List.set_cons_succ, List.set_cons_zero]
    refine F_begin (ls := #[false, false, false, false]) (by kernel_rfl) rfl (by kernel_rfl) ?_
    have H_ := H.drew
    (clear H; have H := H_; clear H_)
    refine T_go [(1, 0, 155), (1, 1, 156)] ?_; (repeat (refine T_rA ?_)); refine T_end ?_
    refine F_eA (ls' := #[true, true, true, false]) (pend' := [1]) 2 ?_; intro K_ hK_; (conv => (arg 4; arg 1; whnf)); (repeat (first | refine hK_ _ _ rfl ?_ ?_ | (go_big_may; (first | ((with_reducible refine g_load rfl ?_); first | refine eL1 H ?_ | refine eLa H ?_) | ((with_reducible refine g_store rfl ?_); (first | refine eSi H ?_ | refine eSb H ?_ | refine eSa H ?_); clear H; intro W_ H))) | go_step | go_guarded | go_upon | dsimp only)); (focus (refine kept_cA 1 156 ?_; exact kept_nil))
    refine F_eA (ls' := #[true, true, true, true]) (pend' := []) 3 ?_; intro K_ hK_; (conv => (arg 4; arg 1; whnf)); (repeat (first | refine hK_ _ _ rfl ?_ ?_ | (go_big_may; (first | ((with_reducible refine g_load rfl ?_); first | refine eL1 H ?_ | refine eLa H ?_) | ((with_reducible refine g_store rfl ?_); (first | refine eSi H ?_ | refine eSb H ?_ | refine eSa H ?_); clear H; intro W_ H))) | go_step | go_guarded | go_upon | dsimp only)); exact kept_nil
    refine F_done (by kernel_rfl) ?_
    go_wp2_with (first | ((with_reducible refine g_box rfl ?_); refine eBa H ?_; clear H; intro g_ W_ H) | ((with_reducible refine g_alloc rfl ?_); refine eNw H ?_; clear H; intro g_ W_ H) | ((with_reducible refine g_load rfl ?_); first | refine eL1 H ?_ | refine eLa H ?_) | ((with_reducible refine g_store rfl ?_); (first | refine eSi H ?_ | refine eSb H ?_ | refine eSa H ?_); clear H; intro W_ H))
    have H2 := H.take (xs := [intsA q1_.ram _]) pksA
    refine' back2 Tryz.results194 ?_ ?_ rfl ⟨q1_, ?_, H2⟩; rotate_left 2; exact rvA; exact rvA
    rfl
  · have hz : CpuD.execC ⟨ca, cx, s, pc, z, n, cc, i⟩ x 22 arg v = CpuD.dn ⟨ca, cx, s, (pc + opLen 22) % 65536, z, n, cc, i⟩ := by simp [CpuD.execC, isReck, isTurn, CpuD.flowC, CpuD.turnR, CpuD.nx]
    have hm : x.execM ⟨ca, cx, s, pc, z, n, cc, i⟩ 22 = x.push ⟨ca, cx, s, (pc + opLen 22) % 65536, z, n, cc, i⟩ ca := by simp [MemD.execM, MemD.flowM, CpuD.nx]
    rw [hz, hm]
    clear hz hm
    have HF := Lib.hid hal
    clear hal
    go_enter Tryz.func194, Tryz.ntmps194
    go_upto_region 2 with (first | (go_at_call 98; (with_reducible refine (spec_l6Copy x q _ (hx.on H) hlen2).mono ?_); rintro e w1 ⟨q1_, rfl, kk⟩; replace H := H.cN kk; clear kk) | ((with_reducible refine g_box rfl ?_); refine eBa H ?_; clear H; intro g_ W_ H) | ((with_reducible refine g_alloc rfl ?_); refine eNw H ?_; clear H; intro g_ W_ H) | ((with_reducible refine g_load rfl ?_); first | refine eL1 H ?_ | refine eLa H ?_) | ((with_reducible refine g_store rfl ?_); (first | refine eSi H ?_ | refine eSb H ?_ | refine eSa H ?_); clear H; intro W_ H))
    (with_reducible refine g_draw ?_)
    try simp only [Act.put, List.setIfInBounds_toArray, List.set_cons_succ, List.set_cons_zero]
    refine F_begin (ls := #[false, false, false, false, false, false, false, false, false]) (by kernel_rfl) rfl (by kernel_rfl) ?_
    have H_ := H.drew
    (clear H; have H := H_; clear H_)
    refine T_go [(0, 0, 19), (1, 1, 20), (0, 2, 21), (1, 3, 22)] ?_; (repeat (first | refine T_pA ?_ | refine T_rA ?_)); refine T_end ?_
    refine F_eA (ls' := #[true, true, true, true, true, false, false, false, false]) (pend' := [1]) 4 ?_; intro K_ hK_; (conv => (arg 4; arg 1; whnf)); (repeat (first | refine hK_ _ _ rfl ?_ ?_ | (go_big_may; (go_at_call 211; (with_reducible refine (spec_OpLen _ _).mono ?_); rintro e w1 ⟨rfl, hb⟩; (replace H := H.callB hb; clear hb))) | go_step | go_guarded | go_upon | dsimp only)); (focus (refine kept_cA 1 20 ?_; exact kept_nil))
    refine T_go [(0, 5, 24), (0, 6, 25), (0, 7, 26)] ?_; (repeat ((refine' T_pure _ rfl rfl (by kernel_rfl) (Nat.le_of_ble_eq_true (by kernel_rfl)) (fun w2_ K_ hK_ => ?_) ?_; rotate_left 1; focus ((conv => (arg 4; arg 1; whnf)); (repeat (first | exact hK_ rfl | (go_big_may; (go_at_call 180; (with_reducible refine (spec_Addr _ _).mono ?_); rintro e w1 ⟨rfl, rfl⟩)) | go_step | go_guarded | go_upon | dsimp only)); done)))); refine T_end ?_
    refine F_eA (ls' := #[true, true, true, true, true, true, true, true, true]) (pend' := []) 8 ?_; intro K_ hK_; (conv => (arg 4; arg 1; whnf)); (repeat (first | refine hK_ _ _ rfl ?_ ?_ | (go_big_may; (first | ((with_reducible refine g_load rfl ?_); first | refine eL1 H ?_ | refine eLa H ?_) | ((with_reducible refine g_store rfl ?_); (first | refine eSi H ?_ | refine eSb H ?_ | refine eSa H ?_); clear H; intro W_ H))) | go_step | go_guarded | go_upon | dsimp only)); exact kept_nil
    refine F_done (by kernel_rfl) ?_
    go_upto_region 33 with (first | (go_at_call 220; (with_reducible refine (spec_l7Alu ⟨ca, cx, s, (pc + opLen 22) % 65536, z, n, cc, i⟩ 22 arg v _ ha0 ha1 hx0 hx1 harg).mono ?_); rintro e w1 ⟨rfl, hb⟩; rw [HF.out]; (replace H := H.callB hb; clear hb)) | (go_at_call 180; (with_reducible refine (spec_Addr _ _).mono ?_); rintro e w1 ⟨rfl, rfl⟩) | (go_at_call 219; (with_reducible refine (spec_Push x q1_ ⟨ca, cx, s, (pc + opLen 22) % 65536, z, n, cc, i⟩ _ _ ⟨InI.of (H.get (x := intsA q1_.ram x.ram) pkA)⟩ HL.out HS.out).mono ?_); rintro e w1 ⟨q2_, rfl, kk⟩; replace H := H.cN kk; clear kk) | ((with_reducible refine g_box rfl ?_); refine eBa H ?_; clear H; intro g_ W_ H) | ((with_reducible refine g_alloc rfl ?_); refine eNw H ?_; clear H; intro g_ W_ H) | ((with_reducible refine g_load rfl ?_); first | refine eL1 H ?_ | refine eLa H ?_) | ((with_reducible refine g_store rfl ?_); (first | refine eSi H ?_ | refine eSb H ?_ | refine eSa H ?_); clear H; intro W_ H))
    (with_reducible refine g_draw ?_)
    try simp only [Act.put, List.setIfInBounds_toArray, List.set_cons_succ, List.set_cons_zero]
    refine F_begin (ls := #[false, false, false, false]) (by kernel_rfl) rfl (by kernel_rfl) ?_
    have H_ := H.drew
    (clear H; have H := H_; clear H_)
    refine T_go [(1, 0, 155), (1, 1, 156)] ?_; (repeat (refine T_rA ?_)); refine T_end ?_
    refine F_eA (ls' := #[true, true, true, false]) (pend' := [1]) 2 ?_; intro K_ hK_; (conv => (arg 4; arg 1; whnf)); (repeat (first | refine hK_ _ _ rfl ?_ ?_ | (go_big_may; (first | ((with_reducible refine g_load rfl ?_); first | refine eL1 H ?_ | refine eLa H ?_) | ((with_reducible refine g_store rfl ?_); (first | refine eSi H ?_ | refine eSb H ?_ | refine eSa H ?_); clear H; intro W_ H))) | go_step | go_guarded | go_upon | dsimp only)); (focus (refine kept_cA 1 156 ?_; exact kept_nil))
    refine F_eA (ls' := #[true, true, true, true]) (pend' := []) 3 ?_; intro K_ hK_; (conv => (arg 4; arg 1; whnf)); (repeat (first | refine hK_ _ _ rfl ?_ ?_ | (go_big_may; (first | ((with_reducible refine g_load rfl ?_); first | refine eL1 H ?_ | refine eLa H ?_) | ((with_reducible refine g_store rfl ?_); (first | refine eSi H ?_ | refine eSb H ?_ | refine eSa H ?_); clear H; intro W_ H))) | go_step | go_guarded | go_upon | dsimp only)); exact kept_nil
    refine F_done (by kernel_rfl) ?_
    go_wp2_with (first | ((with_reducible refine g_box rfl ?_); refine eBa H ?_; clear H; intro g_ W_ H) | ((with_reducible refine g_alloc rfl ?_); refine eNw H ?_; clear H; intro g_ W_ H) | ((with_reducible refine g_load rfl ?_); first | refine eL1 H ?_ | refine eLa H ?_) | ((with_reducible refine g_store rfl ?_); (first | refine eSi H ?_ | refine eSb H ?_ | refine eSa H ?_); clear H; intro W_ H))
    have H2 := H.take (xs := [intsA q2_.ram _]) pksA
    refine' back2 Tryz.results194 ?_ ?_ rfl ⟨q2_, ?_, H2⟩; rotate_left 2; exact rvA; exact rvA
    rfl
  · have hz : CpuD.execC ⟨ca, cx, s, pc, z, n, cc, i⟩ x 23 arg v = (CpuD.up ⟨ca, cx, s, (pc + opLen 23) % 65536, z, n, cc, i⟩).setA (x.top ⟨ca, cx, s, (pc + opLen 23) % 65536, z, n, cc, i⟩) := by simp [CpuD.execC, isReck, isTurn, CpuD.flowC, CpuD.turnR, CpuD.nx]
    have hm : x.execM ⟨ca, cx, s, pc, z, n, cc, i⟩ 23 = x := by simp [MemD.execM, MemD.flowM, CpuD.nx]
    rw [hz, hm]
    clear hz hm
    have HF := Lib.hid hal
    clear hal
    go_enter Tryz.func194, Tryz.ntmps194
    go_upto_region 2 with (first | (go_at_call 98; (with_reducible refine (spec_l6Copy x q _ (hx.on H) hlen2).mono ?_); rintro e w1 ⟨q1_, rfl, kk⟩; replace H := H.cN kk; clear kk) | ((with_reducible refine g_box rfl ?_); refine eBa H ?_; clear H; intro g_ W_ H) | ((with_reducible refine g_alloc rfl ?_); refine eNw H ?_; clear H; intro g_ W_ H) | ((with_reducible refine g_load rfl ?_); first | refine eL1 H ?_ | refine eLa H ?_) | ((with_reducible refine g_store rfl ?_); (first | refine eSi H ?_ | refine eSb H ?_ | refine eSa H ?_); clear H; intro W_ H))
    (with_reducible refine g_draw ?_)
    try simp only [Act.put, List.setIfInBounds_toArray, List.set_cons_succ, List.set_cons_zero]
    refine F_begin (ls := #[false, false, false, false, false, false, false, false, false]) (by kernel_rfl) rfl (by kernel_rfl) ?_
    have H_ := H.drew
    (clear H; have H := H_; clear H_)
    refine T_go [(0, 0, 19), (1, 1, 20), (0, 2, 21), (1, 3, 22)] ?_; (repeat (first | refine T_pA ?_ | refine T_rA ?_)); refine T_end ?_
    refine F_eA (ls' := #[true, true, true, true, true, false, false, false, false]) (pend' := [1]) 4 ?_; intro K_ hK_; (conv => (arg 4; arg 1; whnf)); (repeat (first | refine hK_ _ _ rfl ?_ ?_ | (go_big_may; (go_at_call 211; (with_reducible refine (spec_OpLen _ _).mono ?_); rintro e w1 ⟨rfl, hb⟩; (replace H := H.callB hb; clear hb))) | go_step | go_guarded | go_upon | dsimp only)); (focus (refine kept_cA 1 20 ?_; exact kept_nil))
    refine T_go [(0, 5, 24), (0, 6, 25), (0, 7, 26)] ?_; (repeat ((refine' T_pure _ rfl rfl (by kernel_rfl) (Nat.le_of_ble_eq_true (by kernel_rfl)) (fun w2_ K_ hK_ => ?_) ?_; rotate_left 1; focus ((conv => (arg 4; arg 1; whnf)); (repeat (first | exact hK_ rfl | (go_big_may; (go_at_call 180; (with_reducible refine (spec_Addr _ _).mono ?_); rintro e w1 ⟨rfl, rfl⟩)) | go_step | go_guarded | go_upon | dsimp only)); done)))); refine T_end ?_
    refine F_eA (ls' := #[true, true, true, true, true, true, true, true, true]) (pend' := []) 8 ?_; intro K_ hK_; (conv => (arg 4; arg 1; whnf)); (repeat (first | refine hK_ _ _ rfl ?_ ?_ | (go_big_may; (first | ((with_reducible refine g_load rfl ?_); first | refine eL1 H ?_ | refine eLa H ?_) | ((with_reducible refine g_store rfl ?_); (first | refine eSi H ?_ | refine eSb H ?_ | refine eSa H ?_); clear H; intro W_ H))) | go_step | go_guarded | go_upon | dsimp only)); exact kept_nil
    refine F_done (by kernel_rfl) ?_
    go_upto_region 33 with (first | (go_at_call 220; (with_reducible refine (spec_l7Alu ⟨ca, cx, s, (pc + opLen 23) % 65536, z, n, cc, i⟩ 23 arg v _ ha0 ha1 hx0 hx1 harg).mono ?_); rintro e w1 ⟨rfl, hb⟩; rw [HF.out]; (replace H := H.callB hb; clear hb)) | (go_at_call 180; (with_reducible refine (spec_Addr _ _).mono ?_); rintro e w1 ⟨rfl, rfl⟩) | (go_at_call 222; (with_reducible refine (spec_Pull x q ⟨ca, cx, s, (pc + opLen 23) % 65536, z, n, cc, i⟩ _ (hx.on H) HL.out HB.out HS.out).mono ?_); rintro e w1 ⟨rfl, hb⟩; (replace H := H.callB hb; clear hb)) | (go_at_call 223; (with_reducible refine (spec_SetA (CpuD.up ⟨ca, cx, s, (pc + opLen 23) % 65536, z, n, cc, i⟩) _ _).mono ?_); rintro e w1 ⟨rfl, hb⟩; (replace H := H.callB hb; clear hb)) | ((with_reducible refine g_box rfl ?_); refine eBa H ?_; clear H; intro g_ W_ H) | ((with_reducible refine g_alloc rfl ?_); refine eNw H ?_; clear H; intro g_ W_ H) | ((with_reducible refine g_load rfl ?_); first | refine eL1 H ?_ | refine eLa H ?_) | ((with_reducible refine g_store rfl ?_); (first | refine eSi H ?_ | refine eSb H ?_ | refine eSa H ?_); clear H; intro W_ H))
    (with_reducible refine g_draw ?_)
    try simp only [Act.put, List.setIfInBounds_toArray, List.set_cons_succ, List.set_cons_zero]
    refine F_begin (ls := #[false, false, false, false]) (by kernel_rfl) rfl (by kernel_rfl) ?_
    have H_ := H.drew
    (clear H; have H := H_; clear H_)
    refine T_go [(1, 0, 155), (1, 1, 156)] ?_; (repeat (refine T_rA ?_)); refine T_end ?_
    refine F_eA (ls' := #[true, true, true, false]) (pend' := [1]) 2 ?_; intro K_ hK_; (conv => (arg 4; arg 1; whnf)); (repeat (first | refine hK_ _ _ rfl ?_ ?_ | (go_big_may; (first | ((with_reducible refine g_load rfl ?_); first | refine eL1 H ?_ | refine eLa H ?_) | ((with_reducible refine g_store rfl ?_); (first | refine eSi H ?_ | refine eSb H ?_ | refine eSa H ?_); clear H; intro W_ H))) | go_step | go_guarded | go_upon | dsimp only)); (focus (refine kept_cA 1 156 ?_; exact kept_nil))
    refine F_eA (ls' := #[true, true, true, true]) (pend' := []) 3 ?_; intro K_ hK_; (conv => (arg 4; arg 1; whnf)); (repeat (first | refine hK_ _ _ rfl ?_ ?_ | (go_big_may; (first | ((with_reducible refine g_load rfl ?_); first | refine eL1 H ?_ | refine eLa H ?_) | ((with_reducible refine g_store rfl ?_); (first | refine eSi H ?_ | refine eSb H ?_ | refine eSa H ?_); clear H; intro W_ H))) | go_step | go_guarded | go_upon | dsimp only)); exact kept_nil
    refine F_done (by kernel_rfl) ?_
    go_wp2_with (first | ((with_reducible refine g_box rfl ?_); refine eBa H ?_; clear H; intro g_ W_ H) | ((with_reducible refine g_alloc rfl ?_); refine eNw H ?_; clear H; intro g_ W_ H) | ((with_reducible refine g_load rfl ?_); first | refine eL1 H ?_ | refine eLa H ?_) | ((with_reducible refine g_store rfl ?_); (first | refine eSi H ?_ | refine eSb H ?_ | refine eSa H ?_); clear H; intro W_ H))
    have H2 := H.take (xs := [intsA q1_.ram _]) pksA
    refine' back2 Tryz.results194 ?_ ?_ rfl ⟨q1_, ?_, H2⟩; rotate_left 2; exact rvA; exact rvA
    rfl
  · have hz : CpuD.execC ⟨ca, cx, s, pc, z, n, cc, i⟩ x 24 arg v = ((CpuD.up ⟨ca, cx, s, (pc + opLen 24) % 65536, z, n, cc, i⟩).withF (x.top ⟨ca, cx, s, (pc + opLen 24) % 65536, z, n, cc, i⟩)).back x := by simp [CpuD.execC, isReck, isTurn, CpuD.flowC, CpuD.turnR, CpuD.nx]
    have hm : x.execM ⟨ca, cx, s, pc, z, n, cc, i⟩ 24 = x := by simp [MemD.execM, MemD.flowM, CpuD.nx]
    rw [hz, hm]
    clear hz hm
    have HF := Lib.hid hal
    clear hal
    have HU : Hid (0 ≤ (CpuD.withF (CpuD.up ⟨ca, cx, s, (pc + opLen 24) % 65536, z, n, cc, i⟩) (x.top ⟨ca, cx, s, (pc + opLen 24) % 65536, z, n, cc, i⟩)).s ∧ (CpuD.withF (CpuD.up ⟨ca, cx, s, (pc + opLen 24) % 65536, z, n, cc, i⟩) (x.top ⟨ca, cx, s, (pc + opLen 24) % 65536, z, n, cc, i⟩)).s ≤ 255) := Lib.hid (CpuD.up_s ⟨ca, cx, s, (pc + opLen 24) % 65536, z, n, cc, i⟩)
    go_enter Tryz.func194, Tryz.ntmps194
    go_upto_region 2 with (first | (go_at_call 98; (with_reducible refine (spec_l6Copy x q _ (hx.on H) hlen2).mono ?_); rintro e w1 ⟨q1_, rfl, kk⟩; replace H := H.cN kk; clear kk) | ((with_reducible refine g_box rfl ?_); refine eBa H ?_; clear H; intro g_ W_ H) | ((with_reducible refine g_alloc rfl ?_); refine eNw H ?_; clear H; intro g_ W_ H) | ((with_reducible refine g_load rfl ?_); first | refine eL1 H ?_ | refine eLa H ?_) | ((with_reducible refine g_store rfl ?_); (first | refine eSi H ?_ | refine eSb H ?_ | refine eSa H ?_); clear H; intro W_ H))
    (with_reducible refine g_draw ?_)
    try simp only [Act.put, List.setIfInBounds_toArray, List.set_cons_succ, List.set_cons_zero]
    refine F_begin (ls := #[false, false, false, false, false, false, false, false, false]) (by kernel_rfl) rfl (by kernel_rfl) ?_
    have H_ := H.drew
    (clear H; have H := H_; clear H_)
    refine T_go [(0, 0, 19), (1, 1, 20), (0, 2, 21), (1, 3, 22)] ?_; (repeat (first | refine T_pA ?_ | refine T_rA ?_)); refine T_end ?_
    refine F_eA (ls' := #[true, true, true, true, true, false, false, false, false]) (pend' := [1]) 4 ?_; intro K_ hK_; (conv => (arg 4; arg 1; whnf)); (repeat (first | refine hK_ _ _ rfl ?_ ?_ | (go_big_may; (go_at_call 211; (with_reducible refine (spec_OpLen _ _).mono ?_); rintro e w1 ⟨rfl, hb⟩; (replace H := H.callB hb; clear hb))) | go_step | go_guarded | go_upon | dsimp only)); (focus (refine kept_cA 1 20 ?_; exact kept_nil))
    refine T_go [(0, 5, 24), (0, 6, 25), (0, 7, 26)] ?_; (repeat ((refine' T_pure _ rfl rfl (by kernel_rfl) (Nat.le_of_ble_eq_true (by kernel_rfl)) (fun w2_ K_ hK_ => ?_) ?_; rotate_left 1; focus ((conv => (arg 4; arg 1; whnf)); (repeat (first | exact hK_ rfl | (go_big_may; (go_at_call 180; (with_reducible refine (spec_Addr _ _).mono ?_); rintro e w1 ⟨rfl, rfl⟩)) | go_step | go_guarded | go_upon | dsimp only)); done)))); refine T_end ?_
    refine F_eA (ls' := #[true, true, true, true, true, true, true, true, true]) (pend' := []) 8 ?_; intro K_ hK_; (conv => (arg 4; arg 1; whnf)); (repeat (first | refine hK_ _ _ rfl ?_ ?_ | (go_big_may; (first | ((with_reducible refine g_load rfl ?_); first | refine eL1 H ?_ | refine eLa H ?_) | ((with_reducible refine g_store rfl ?_); (first | refine eSi H ?_ | refine eSb H ?_ | refine eSa H ?_); clear H; intro W_ H))) | go_step | go_guarded | go_upon | dsimp only)); exact kept_nil
    refine F_done (by kernel_rfl) ?_
    go_upto_region 26 with (first | (go_at_call 220; (with_reducible refine (spec_l7Alu ⟨ca, cx, s, (pc + opLen 24) % 65536, z, n, cc, i⟩ 24 arg v _ ha0 ha1 hx0 hx1 harg).mono ?_); rintro e w1 ⟨rfl, hb⟩; rw [HF.out]; (replace H := H.callB hb; clear hb)) | (go_at_call 180; (with_reducible refine (spec_Addr _ _).mono ?_); rintro e w1 ⟨rfl, rfl⟩) | (go_at_call 222; (with_reducible refine (spec_Pull x q ⟨ca, cx, s, (pc + opLen 24) % 65536, z, n, cc, i⟩ _ (hx.on H) HL.out HB.out HS.out).mono ?_); rintro e w1 ⟨rfl, hb⟩; (replace H := H.callB hb; clear hb)) | ((with_reducible refine g_box rfl ?_); refine eBa H ?_; clear H; intro g_ W_ H) | ((with_reducible refine g_alloc rfl ?_); refine eNw H ?_; clear H; intro g_ W_ H) | ((with_reducible refine g_load rfl ?_); first | refine eL1 H ?_ | refine eLa H ?_) | ((with_reducible refine g_store rfl ?_); (first | refine eSi H ?_ | refine eSb H ?_ | refine eSa H ?_); clear H; intro W_ H))
    (with_reducible refine g_draw ?_)
    try simp only [Act.put, List.setIfInBounds_toArray, List.set_cons_succ, List.set_cons_zero]
    refine F_begin (ls := #[false, false, false, false, false, false]) (by kernel_rfl) rfl (by kernel_rfl) ?_
    have H_ := H.drew
    (clear H; have H := H_; clear H_)
    refine T_go [(1, 0, 136), (1, 1, 137), (0, 2, 138)] ?_; (repeat (first | refine T_pA ?_ | refine T_rA ?_)); refine T_end ?_
    refine F_eA (ls' := #[true, true, true, true, false, false]) (pend' := [0]) 3 ?_; intro K_ hK_; (conv => (arg 4; arg 1; whnf)); (repeat (first | refine hK_ _ _ rfl ?_ ?_ | (go_big_may; (go_at_call 224; (with_reducible refine (spec_WithFlags (CpuD.up ⟨ca, cx, s, (pc + opLen 24) % 65536, z, n, cc, i⟩) _ _).mono ?_); rintro e w1 ⟨rfl, hb⟩; (replace H := H.callB hb; clear hb))) | go_step | go_guarded | go_upon | dsimp only)); (focus (refine kept_cA 0 136 ?_; exact kept_nil))
    refine F_eA (ls' := #[true, true, true, true, true, false]) (pend' := []) 4 ?_; intro K_ hK_; (conv => (arg 4; arg 1; whnf)); (repeat (first | refine hK_ _ _ rfl ?_ ?_ | (go_big_may; (go_at_call 221; (with_reducible refine (spec_l7Back x q (CpuD.withF (CpuD.up ⟨ca, cx, s, (pc + opLen 24) % 65536, z, n, cc, i⟩) (x.top ⟨ca, cx, s, (pc + opLen 24) % 65536, z, n, cc, i⟩)) _ (hx.on H) HL.out HB.out HU.out).mono ?_); rintro e w1 ⟨rfl, hb⟩; (replace H := H.callB hb; clear hb))) | go_step | go_guarded | go_upon | dsimp only)); exact kept_nil
    refine F_eA (ls' := #[true, true, true, true, true, true]) (pend' := []) 5 ?_; intro K_ hK_; (conv => (arg 4; arg 1; whnf)); (repeat (first | refine hK_ _ _ rfl ?_ ?_ | (go_big_may; (first | ((with_reducible refine g_load rfl ?_); first | refine eL1 H ?_ | refine eLa H ?_) | ((with_reducible refine g_store rfl ?_); (first | refine eSi H ?_ | refine eSb H ?_ | refine eSa H ?_); clear H; intro W_ H))) | go_step | go_guarded | go_upon | dsimp only)); exact kept_nil
    refine F_done (by kernel_rfl) ?_
    go_upto_region 33 with (first | (go_at_call 220; (with_reducible refine (spec_l7Alu ⟨ca, cx, s, (pc + opLen 24) % 65536, z, n, cc, i⟩ 24 arg v _ ha0 ha1 hx0 hx1 harg).mono ?_); rintro e w1 ⟨rfl, hb⟩; rw [HF.out]; (replace H := H.callB hb; clear hb)) | (go_at_call 180; (with_reducible refine (spec_Addr _ _).mono ?_); rintro e w1 ⟨rfl, rfl⟩) | (go_at_call 222; (with_reducible refine (spec_Pull x q ⟨ca, cx, s, (pc + opLen 24) % 65536, z, n, cc, i⟩ _ (hx.on H) HL.out HB.out HS.out).mono ?_); rintro e w1 ⟨rfl, hb⟩; (replace H := H.callB hb; clear hb)) | ((with_reducible refine g_box rfl ?_); refine eBa H ?_; clear H; intro g_ W_ H) | ((with_reducible refine g_alloc rfl ?_); refine eNw H ?_; clear H; intro g_ W_ H) | ((with_reducible refine g_load rfl ?_); first | refine eL1 H ?_ | refine eLa H ?_) | ((with_reducible refine g_store rfl ?_); (first | refine eSi H ?_ | refine eSb H ?_ | refine eSa H ?_); clear H; intro W_ H))
    (with_reducible refine g_draw ?_)
    try simp only [Act.put, List.setIfInBounds_toArray, List.set_cons_succ, List.set_cons_zero]
    refine F_begin (ls := #[false, false, false, false]) (by kernel_rfl) rfl (by kernel_rfl) ?_
    have H_ := H.drew
    (clear H; have H := H_; clear H_)
    refine T_go [(1, 0, 155), (1, 1, 156)] ?_; (repeat (refine T_rA ?_)); refine T_end ?_
    refine F_eA (ls' := #[true, true, true, false]) (pend' := [1]) 2 ?_; intro K_ hK_; (conv => (arg 4; arg 1; whnf)); (repeat (first | refine hK_ _ _ rfl ?_ ?_ | (go_big_may; (first | ((with_reducible refine g_load rfl ?_); first | refine eL1 H ?_ | refine eLa H ?_) | ((with_reducible refine g_store rfl ?_); (first | refine eSi H ?_ | refine eSb H ?_ | refine eSa H ?_); clear H; intro W_ H))) | go_step | go_guarded | go_upon | dsimp only)); (focus (refine kept_cA 1 156 ?_; exact kept_nil))
    refine F_eA (ls' := #[true, true, true, true]) (pend' := []) 3 ?_; intro K_ hK_; (conv => (arg 4; arg 1; whnf)); (repeat (first | refine hK_ _ _ rfl ?_ ?_ | (go_big_may; (first | ((with_reducible refine g_load rfl ?_); first | refine eL1 H ?_ | refine eLa H ?_) | ((with_reducible refine g_store rfl ?_); (first | refine eSi H ?_ | refine eSb H ?_ | refine eSa H ?_); clear H; intro W_ H))) | go_step | go_guarded | go_upon | dsimp only)); exact kept_nil
    refine F_done (by kernel_rfl) ?_
    go_wp2_with (first | ((with_reducible refine g_box rfl ?_); refine eBa H ?_; clear H; intro g_ W_ H) | ((with_reducible refine g_alloc rfl ?_); refine eNw H ?_; clear H; intro g_ W_ H) | ((with_reducible refine g_load rfl ?_); first | refine eL1 H ?_ | refine eLa H ?_) | ((with_reducible refine g_store rfl ?_); (first | refine eSi H ?_ | refine eSb H ?_ | refine eSa H ?_); clear H; intro W_ H))
    have H2 := H.take (xs := [intsA q1_.ram _]) pksA
    refine' back2 Tryz.results194 ?_ ?_ rfl ⟨q1_, ?_, H2⟩; rotate_left 2; exact rvA; exact rvA
    rfl
  · have hz : CpuD.execC ⟨ca, cx, s, pc, z, n, cc, i⟩ x 25 arg v = CpuD.setI ⟨ca, cx, s, (pc + opLen 25) % 65536, z, n, cc, i⟩ true := by simp [CpuD.execC, isReck, isTurn, CpuD.flowC, CpuD.turnR, CpuD.nx]
    have hm : x.execM ⟨ca, cx, s, pc, z, n, cc, i⟩ 25 = x := by simp [MemD.execM, MemD.flowM, CpuD.nx]
    rw [hz, hm]
    clear hz hm
    have HF := Lib.hid hal
    clear hal
    go_enter Tryz.func194, Tryz.ntmps194
    go_upto_region 2 with (first | (go_at_call 98; (with_reducible refine (spec_l6Copy x q _ (hx.on H) hlen2).mono ?_); rintro e w1 ⟨q1_, rfl, kk⟩; replace H := H.cN kk; clear kk) | ((with_reducible refine g_box rfl ?_); refine eBa H ?_; clear H; intro g_ W_ H) | ((with_reducible refine g_alloc rfl ?_); refine eNw H ?_; clear H; intro g_ W_ H) | ((with_reducible refine g_load rfl ?_); first | refine eL1 H ?_ | refine eLa H ?_) | ((with_reducible refine g_store rfl ?_); (first | refine eSi H ?_ | refine eSb H ?_ | refine eSa H ?_); clear H; intro W_ H))
    (with_reducible refine g_draw ?_)
    try simp only [Act.put, List.setIfInBounds_toArray, List.set_cons_succ, List.set_cons_zero]
    refine F_begin (ls := #[false, false, false, false, false, false, false, false, false]) (by kernel_rfl) rfl (by kernel_rfl) ?_
    have H_ := H.drew
    (clear H; have H := H_; clear H_)
    refine T_go [(0, 0, 19), (1, 1, 20), (0, 2, 21), (1, 3, 22)] ?_; (repeat (first | refine T_pA ?_ | refine T_rA ?_)); refine T_end ?_
    refine F_eA (ls' := #[true, true, true, true, true, false, false, false, false]) (pend' := [1]) 4 ?_; intro K_ hK_; (conv => (arg 4; arg 1; whnf)); (repeat (first | refine hK_ _ _ rfl ?_ ?_ | (go_big_may; (go_at_call 211; (with_reducible refine (spec_OpLen _ _).mono ?_); rintro e w1 ⟨rfl, hb⟩; (replace H := H.callB hb; clear hb))) | go_step | go_guarded | go_upon | dsimp only)); (focus (refine kept_cA 1 20 ?_; exact kept_nil))
    refine T_go [(0, 5, 24), (0, 6, 25), (0, 7, 26)] ?_; (repeat ((refine' T_pure _ rfl rfl (by kernel_rfl) (Nat.le_of_ble_eq_true (by kernel_rfl)) (fun w2_ K_ hK_ => ?_) ?_; rotate_left 1; focus ((conv => (arg 4; arg 1; whnf)); (repeat (first | exact hK_ rfl | (go_big_may; (go_at_call 180; (with_reducible refine (spec_Addr _ _).mono ?_); rintro e w1 ⟨rfl, rfl⟩)) | go_step | go_guarded | go_upon | dsimp only)); done)))); refine T_end ?_
    refine F_eA (ls' := #[true, true, true, true, true, true, true, true, true]) (pend' := []) 8 ?_; intro K_ hK_; (conv => (arg 4; arg 1; whnf)); (repeat (first | refine hK_ _ _ rfl ?_ ?_ | (go_big_may; (first | ((with_reducible refine g_load rfl ?_); first | refine eL1 H ?_ | refine eLa H ?_) | ((with_reducible refine g_store rfl ?_); (first | refine eSi H ?_ | refine eSb H ?_ | refine eSa H ?_); clear H; intro W_ H))) | go_step | go_guarded | go_upon | dsimp only)); exact kept_nil
    refine F_done (by kernel_rfl) ?_
    go_upto_region 33 with (first | (go_at_call 220; (with_reducible refine (spec_l7Alu ⟨ca, cx, s, (pc + opLen 25) % 65536, z, n, cc, i⟩ 25 arg v _ ha0 ha1 hx0 hx1 harg).mono ?_); rintro e w1 ⟨rfl, hb⟩; rw [HF.out]; (replace H := H.callB hb; clear hb)) | (go_at_call 180; (with_reducible refine (spec_Addr _ _).mono ?_); rintro e w1 ⟨rfl, rfl⟩) | ((with_reducible refine g_box rfl ?_); refine eBa H ?_; clear H; intro g_ W_ H) | ((with_reducible refine g_alloc rfl ?_); refine eNw H ?_; clear H; intro g_ W_ H) | ((with_reducible refine g_load rfl ?_); first | refine eL1 H ?_ | refine eLa H ?_) | ((with_reducible refine g_store rfl ?_); (first | refine eSi H ?_ | refine eSb H ?_ | refine eSa H ?_); clear H; intro W_ H))
    (with_reducible refine g_draw ?_)
    try simp only [Act.put, List.setIfInBounds_toArray, List.set_cons_succ, List.set_cons_zero]
    refine F_begin (ls := #[false, false, false, false]) (by kernel_rfl) rfl (by kernel_rfl) ?_
    have H_ := H.drew
    (clear H; have H := H_; clear H_)
    refine T_go [(1, 0, 155), (1, 1, 156)] ?_; (repeat (refine T_rA ?_)); refine T_end ?_
    refine F_eA (ls' := #[true, true, true, false]) (pend' := [1]) 2 ?_; intro K_ hK_; (conv => (arg 4; arg 1; whnf)); (repeat (first | refine hK_ _ _ rfl ?_ ?_ | (go_big_may; (first | ((with_reducible refine g_load rfl ?_); first | refine eL1 H ?_ | refine eLa H ?_) | ((with_reducible refine g_store rfl ?_); (first | refine eSi H ?_ | refine eSb H ?_ | refine eSa H ?_); clear H; intro W_ H))) | go_step | go_guarded | go_upon | dsimp only)); (focus (refine kept_cA 1 156 ?_; exact kept_nil))
    refine F_eA (ls' := #[true, true, true, true]) (pend' := []) 3 ?_; intro K_ hK_; (conv => (arg 4; arg 1; whnf)); (repeat (first | refine hK_ _ _ rfl ?_ ?_ | (go_big_may; (first | ((with_reducible refine g_load rfl ?_); first | refine eL1 H ?_ | refine eLa H ?_) | ((with_reducible refine g_store rfl ?_); (first | refine eSi H ?_ | refine eSb H ?_ | refine eSa H ?_); clear H; intro W_ H))) | go_step | go_guarded | go_upon | dsimp only)); exact kept_nil
    refine F_done (by kernel_rfl) ?_
    go_wp2_with (first | ((with_reducible refine g_box rfl ?_); refine eBa H ?_; clear H; intro g_ W_ H) | ((with_reducible refine g_alloc rfl ?_); refine eNw H ?_; clear H; intro g_ W_ H) | ((with_reducible refine g_load rfl ?_); first | refine eL1 H ?_ | refine eLa H ?_) | ((with_reducible refine g_store rfl ?_); (first | refine eSi H ?_ | refine eSb H ?_ | refine eSa H ?_); clear H; intro W_ H))
    have H2 := H.take (xs := [intsA q1_.ram _]) pksA
    refine' back2 Tryz.results194 ?_ ?_ rfl ⟨q1_, ?_, H2⟩; rotate_left 2; exact rvA; exact rvA
    rfl
  · have hz : CpuD.execC ⟨ca, cx, s, pc, z, n, cc, i⟩ x 26 arg v = CpuD.setI ⟨ca, cx, s, (pc + opLen 26) % 65536, z, n, cc, i⟩ false := by simp [CpuD.execC, isReck, isTurn, CpuD.flowC, CpuD.turnR, CpuD.nx]
    have hm : x.execM ⟨ca, cx, s, pc, z, n, cc, i⟩ 26 = x := by simp [MemD.execM, MemD.flowM, CpuD.nx]
    rw [hz, hm]
    clear hz hm
    have HF := Lib.hid hal
    clear hal
    go_enter Tryz.func194, Tryz.ntmps194
    go_upto_region 2 with (first | (go_at_call 98; (with_reducible refine (spec_l6Copy x q _ (hx.on H) hlen2).mono ?_); rintro e w1 ⟨q1_, rfl, kk⟩; replace H := H.cN kk; clear kk) | ((with_reducible refine g_box rfl ?_); refine eBa H ?_; clear H; intro g_ W_ H) | ((with_reducible refine g_alloc rfl ?_); refine eNw H ?_; clear H; intro g_ W_ H) | ((with_reducible refine g_load rfl ?_); first | refine eL1 H ?_ | refine eLa H ?_) | ((with_reducible refine g_store rfl ?_); (first | refine eSi H ?_ | refine eSb H ?_ | refine eSa H ?_); clear H; intro W_ H))
    (with_reducible refine g_draw ?_)
    try simp only [Act.put, List.setIfInBounds_toArray, List.set_cons_succ, List.set_cons_zero]
    refine F_begin (ls := #[false, false, false, false, false, false, false, false, false]) (by kernel_rfl) rfl (by kernel_rfl) ?_
    have H_ := H.drew
    (clear H; have H := H_; clear H_)
    refine T_go [(0, 0, 19), (1, 1, 20), (0, 2, 21), (1, 3, 22)] ?_; (repeat (first | refine T_pA ?_ | refine T_rA ?_)); refine T_end ?_
    refine F_eA (ls' := #[true, true, true, true, true, false, false, false, false]) (pend' := [1]) 4 ?_; intro K_ hK_; (conv => (arg 4; arg 1; whnf)); (repeat (first | refine hK_ _ _ rfl ?_ ?_ | (go_big_may; (go_at_call 211; (with_reducible refine (spec_OpLen _ _).mono ?_); rintro e w1 ⟨rfl, hb⟩; (replace H := H.callB hb; clear hb))) | go_step | go_guarded | go_upon | dsimp only)); (focus (refine kept_cA 1 20 ?_; exact kept_nil))
    refine T_go [(0, 5, 24), (0, 6, 25), (0, 7, 26)] ?_; (repeat ((refine' T_pure _ rfl rfl (by kernel_rfl) (Nat.le_of_ble_eq_true (by kernel_rfl)) (fun w2_ K_ hK_ => ?_) ?_; rotate_left 1; focus ((conv => (arg 4; arg 1; whnf)); (repeat (first | exact hK_ rfl | (go_big_may; (go_at_call 180; (with_reducible refine (spec_Addr _ _).mono ?_); rintro e w1 ⟨rfl, rfl⟩)) | go_step | go_guarded | go_upon | dsimp only)); done)))); refine T_end ?_
    refine F_eA (ls' := #[true, true, true, true, true, true, true, true, true]) (pend' := []) 8 ?_; intro K_ hK_; (conv => (arg 4; arg 1; whnf)); (repeat (first | refine hK_ _ _ rfl ?_ ?_ | (go_big_may; (first | ((with_reducible refine g_load rfl ?_); first | refine eL1 H ?_ | refine eLa H ?_) | ((with_reducible refine g_store rfl ?_); (first | refine eSi H ?_ | refine eSb H ?_ | refine eSa H ?_); clear H; intro W_ H))) | go_step | go_guarded | go_upon | dsimp only)); exact kept_nil
    refine F_done (by kernel_rfl) ?_
    go_upto_region 33 with (first | (go_at_call 220; (with_reducible refine (spec_l7Alu ⟨ca, cx, s, (pc + opLen 26) % 65536, z, n, cc, i⟩ 26 arg v _ ha0 ha1 hx0 hx1 harg).mono ?_); rintro e w1 ⟨rfl, hb⟩; rw [HF.out]; (replace H := H.callB hb; clear hb)) | (go_at_call 180; (with_reducible refine (spec_Addr _ _).mono ?_); rintro e w1 ⟨rfl, rfl⟩) | ((with_reducible refine g_box rfl ?_); refine eBa H ?_; clear H; intro g_ W_ H) | ((with_reducible refine g_alloc rfl ?_); refine eNw H ?_; clear H; intro g_ W_ H) | ((with_reducible refine g_load rfl ?_); first | refine eL1 H ?_ | refine eLa H ?_) | ((with_reducible refine g_store rfl ?_); (first | refine eSi H ?_ | refine eSb H ?_ | refine eSa H ?_); clear H; intro W_ H))
    (with_reducible refine g_draw ?_)
    try simp only [Act.put, List.setIfInBounds_toArray, List.set_cons_succ, List.set_cons_zero]
    refine F_begin (ls := #[false, false, false, false]) (by kernel_rfl) rfl (by kernel_rfl) ?_
    have H_ := H.drew
    (clear H; have H := H_; clear H_)
    refine T_go [(1, 0, 155), (1, 1, 156)] ?_; (repeat (refine T_rA ?_)); refine T_end ?_
    refine F_eA (ls' := #[true, true, true, false]) (pend' := [1]) 2 ?_; intro K_ hK_; (conv => (arg 4; arg 1; whnf)); (repeat (first | refine hK_ _ _ rfl ?_ ?_ | (go_big_may; (first | ((with_reducible refine g_load rfl ?_); first | refine eL1 H ?_ | refine eLa H ?_) | ((with_reducible refine g_store rfl ?_); (first | refine eSi H ?_ | refine eSb H ?_ | refine eSa H ?_); clear H; intro W_ H))) | go_step | go_guarded | go_upon | dsimp only)); (focus (refine kept_cA 1 156 ?_; exact kept_nil))
    refine F_eA (ls' := #[true, true, true, true]) (pend' := []) 3 ?_; intro K_ hK_; (conv => (arg 4; arg 1; whnf)); (repeat (first | refine hK_ _ _ rfl ?_ ?_ | (go_big_may; (first | ((with_reducible refine g_load rfl ?_); first | refine eL1 H ?_ | refine eLa H ?_) | ((with_reducible refine g_store rfl ?_); (first | refine eSi H ?_ | refine eSb H ?_ | refine eSa H ?_); clear H; intro W_ H))) | go_step | go_guarded | go_upon | dsimp only)); exact kept_nil
    refine F_done (by kernel_rfl) ?_
    go_wp2_with (first | ((with_reducible refine g_box rfl ?_); refine eBa H ?_; clear H; intro g_ W_ H) | ((with_reducible refine g_alloc rfl ?_); refine eNw H ?_; clear H; intro g_ W_ H) | ((with_reducible refine g_load rfl ?_); first | refine eL1 H ?_ | refine eLa H ?_) | ((with_reducible refine g_store rfl ?_); (first | refine eSi H ?_ | refine eSb H ?_ | refine eSa H ?_); clear H; intro W_ H))
    have H2 := H.take (xs := [intsA q1_.ram _]) pksA
    refine' back2 Tryz.results194 ?_ ?_ rfl ⟨q1_, ?_, H2⟩; rotate_left 2; exact rvA; exact rvA
    rfl
  · have hz : CpuD.execC ⟨ca, cx, s, pc, z, n, cc, i⟩ x 27 arg v = CpuD.setC ⟨ca, cx, s, (pc + opLen 27) % 65536, z, n, cc, i⟩ true := by simp [CpuD.execC, isReck, isTurn, CpuD.flowC, CpuD.turnR, CpuD.nx]
    have hm : x.execM ⟨ca, cx, s, pc, z, n, cc, i⟩ 27 = x := by simp [MemD.execM, MemD.flowM, CpuD.nx]
    rw [hz, hm]
    clear hz hm
    have HF := Lib.hid hal
    clear hal
    go_enter Tryz.func194, Tryz.ntmps194
    go_upto_region 2 with (first | (go_at_call 98; (with_reducible refine (spec_l6Copy x q _ (hx.on H) hlen2).mono ?_); rintro e w1 ⟨q1_, rfl, kk⟩; replace H := H.cN kk; clear kk) | ((with_reducible refine g_box rfl ?_); refine eBa H ?_; clear H; intro g_ W_ H) | ((with_reducible refine g_alloc rfl ?_); refine eNw H ?_; clear H; intro g_ W_ H) | ((with_reducible refine g_load rfl ?_); first | refine eL1 H ?_ | refine eLa H ?_) | ((with_reducible refine g_store rfl ?_); (first | refine eSi H ?_ | refine eSb H ?_ | refine eSa H ?_); clear H; intro W_ H))
    (with_reducible refine g_draw ?_)
    try simp only [Act.put, List.setIfInBounds_toArray, List.set_cons_succ, List.set_cons_zero]
    refine F_begin (ls := #[false, false, false, false, false, false, false, false, false]) (by kernel_rfl) rfl (by kernel_rfl) ?_
    have H_ := H.drew
    (clear H; have H := H_; clear H_)
    refine T_go [(0, 0, 19), (1, 1, 20), (0, 2, 21), (1, 3, 22)] ?_; (repeat (first | refine T_pA ?_ | refine T_rA ?_)); refine T_end ?_
    refine F_eA (ls' := #[true, true, true, true, true, false, false, false, false]) (pend' := [1]) 4 ?_; intro K_ hK_; (conv => (arg 4; arg 1; whnf)); (repeat (first | refine hK_ _ _ rfl ?_ ?_ | (go_big_may; (go_at_call 211; (with_reducible refine (spec_OpLen _ _).mono ?_); rintro e w1 ⟨rfl, hb⟩; (replace H := H.callB hb; clear hb))) | go_step | go_guarded | go_upon | dsimp only)); (focus (refine kept_cA 1 20 ?_; exact kept_nil))
    refine T_go [(0, 5, 24), (0, 6, 25), (0, 7, 26)] ?_; (repeat ((refine' T_pure _ rfl rfl (by kernel_rfl) (Nat.le_of_ble_eq_true (by kernel_rfl)) (fun w2_ K_ hK_ => ?_) ?_; rotate_left 1; focus ((conv => (arg 4; arg 1; whnf)); (repeat (first | exact hK_ rfl | (go_big_may; (go_at_call 180; (with_reducible refine (spec_Addr _ _).mono ?_); rintro e w1 ⟨rfl, rfl⟩)) | go_step | go_guarded | go_upon | dsimp only)); done)))); refine T_end ?_
    refine F_eA (ls' := #[true, true, true, true, true, true, true, true, true]) (pend' := []) 8 ?_; intro K_ hK_; (conv => (arg 4; arg 1; whnf)); (repeat (first | refine hK_ _ _ rfl ?_ ?_ | (go_big_may; (first | ((with_reducible refine g_load rfl ?_); first | refine eL1 H ?_ | refine eLa H ?_) | ((with_reducible refine g_store rfl ?_); (first | refine eSi H ?_ | refine eSb H ?_ | refine eSa H ?_); clear H; intro W_ H))) | go_step | go_guarded | go_upon | dsimp only)); exact kept_nil
    refine F_done (by kernel_rfl) ?_
    go_upto_region 33 with (first | (go_at_call 220; (with_reducible refine (spec_l7Alu ⟨ca, cx, s, (pc + opLen 27) % 65536, z, n, cc, i⟩ 27 arg v _ ha0 ha1 hx0 hx1 harg).mono ?_); rintro e w1 ⟨rfl, hb⟩; rw [HF.out]; (replace H := H.callB hb; clear hb)) | (go_at_call 180; (with_reducible refine (spec_Addr _ _).mono ?_); rintro e w1 ⟨rfl, rfl⟩) | ((with_reducible refine g_box rfl ?_); refine eBa H ?_; clear H; intro g_ W_ H) | ((with_reducible refine g_alloc rfl ?_); refine eNw H ?_; clear H; intro g_ W_ H) | ((with_reducible refine g_load rfl ?_); first | refine eL1 H ?_ | refine eLa H ?_) | ((with_reducible refine g_store rfl ?_); (first | refine eSi H ?_ | refine eSb H ?_ | refine eSa H ?_); clear H; intro W_ H))
    (with_reducible refine g_draw ?_)
    try simp only [Act.put, List.setIfInBounds_toArray, List.set_cons_succ, List.set_cons_zero]
    refine F_begin (ls := #[false, false, false, false]) (by kernel_rfl) rfl (by kernel_rfl) ?_
    have H_ := H.drew
    (clear H; have H := H_; clear H_)
    refine T_go [(1, 0, 155), (1, 1, 156)] ?_; (repeat (refine T_rA ?_)); refine T_end ?_
    refine F_eA (ls' := #[true, true, true, false]) (pend' := [1]) 2 ?_; intro K_ hK_; (conv => (arg 4; arg 1; whnf)); (repeat (first | refine hK_ _ _ rfl ?_ ?_ | (go_big_may; (first | ((with_reducible refine g_load rfl ?_); first | refine eL1 H ?_ | refine eLa H ?_) | ((with_reducible refine g_store rfl ?_); (first | refine eSi H ?_ | refine eSb H ?_ | refine eSa H ?_); clear H; intro W_ H))) | go_step | go_guarded | go_upon | dsimp only)); (focus (refine kept_cA 1 156 ?_; exact kept_nil))
    refine F_eA (ls' := #[true, true, true, true]) (pend' := []) 3 ?_; intro K_ hK_; (conv => (arg 4; arg 1; whnf)); (repeat (first | refine hK_ _ _ rfl ?_ ?_ | (go_big_may; (first | ((with_reducible refine g_load rfl ?_); first | refine eL1 H ?_ | refine eLa H ?_) | ((with_reducible refine g_store rfl ?_); (first | refine eSi H ?_ | refine eSb H ?_ | refine eSa H ?_); clear H; intro W_ H))) | go_step | go_guarded | go_upon | dsimp only)); exact kept_nil
    refine F_done (by kernel_rfl) ?_
    go_wp2_with (first | ((with_reducible refine g_box rfl ?_); refine eBa H ?_; clear H; intro g_ W_ H) | ((with_reducible refine g_alloc rfl ?_); refine eNw H ?_; clear H; intro g_ W_ H) | ((with_reducible refine g_load rfl ?_); first | refine eL1 H ?_ | refine eLa H ?_) | ((with_reducible refine g_store rfl ?_); (first | refine eSi H ?_ | refine eSb H ?_ | refine eSa H ?_); clear H; intro W_ H))
    have H2 := H.take (xs := [intsA q1_.ram _]) pksA
    refine' back2 Tryz.results194 ?_ ?_ rfl ⟨q1_, ?_, H2⟩; rotate_left 2; exact rvA; exact rvA
    rfl
  · have hz : CpuD.execC ⟨ca, cx, s, pc, z, n, cc, i⟩ x 28 arg v = CpuD.setC ⟨ca, cx, s, (pc + opLen 28) % 65536, z, n, cc, i⟩ false := by simp [CpuD.execC, isReck, isTurn, CpuD.flowC, CpuD.turnR, CpuD.nx]
    have hm : x.execM ⟨ca, cx, s, pc, z, n, cc, i⟩ 28 = x := by simp [MemD.execM, MemD.flowM, CpuD.nx]
    rw [hz, hm]
    clear hz hm
    have HF := Lib.hid hal
    clear hal
    go_enter Tryz.func194, Tryz.ntmps194
    go_upto_region 2 with (first | (go_at_call 98; (with_reducible refine (spec_l6Copy x q _ (hx.on H) hlen2).mono ?_); rintro e w1 ⟨q1_, rfl, kk⟩; replace H := H.cN kk; clear kk) | ((with_reducible refine g_box rfl ?_); refine eBa H ?_; clear H; intro g_ W_ H) | ((with_reducible refine g_alloc rfl ?_); refine eNw H ?_; clear H; intro g_ W_ H) | ((with_reducible refine g_load rfl ?_); first | refine eL1 H ?_ | refine eLa H ?_) | ((with_reducible refine g_store rfl ?_); (first | refine eSi H ?_ | refine eSb H ?_ | refine eSa H ?_); clear H; intro W_ H))
    (with_reducible refine g_draw ?_)
    try simp only [Act.put, List.setIfInBounds_toArray, List.set_cons_succ, List.set_cons_zero]
    refine F_begin (ls := #[false, false, false, false, false, false, false, false, false]) (by kernel_rfl) rfl (by kernel_rfl) ?_
    have H_ := H.drew
    (clear H; have H := H_; clear H_)
    refine T_go [(0, 0, 19), (1, 1, 20), (0, 2, 21), (1, 3, 22)] ?_; (repeat (first | refine T_pA ?_ | refine T_rA ?_)); refine T_end ?_
    refine F_eA (ls' := #[true, true, true, true, true, false, false, false, false]) (pend' := [1]) 4 ?_; intro K_ hK_; (conv => (arg 4; arg 1; whnf)); (repeat (first | refine hK_ _ _ rfl ?_ ?_ | (go_big_may; (go_at_call 211; (with_reducible refine (spec_OpLen _ _).mono ?_); rintro e w1 ⟨rfl, hb⟩; (replace H := H.callB hb; clear hb))) | go_step | go_guarded | go_upon | dsimp only)); (focus (refine kept_cA 1 20 ?_; exact kept_nil))
    refine T_go [(0, 5, 24), (0, 6, 25), (0, 7, 26)] ?_; (repeat ((refine' T_pure _ rfl rfl (by kernel_rfl) (Nat.le_of_ble_eq_true (by kernel_rfl)) (fun w2_ K_ hK_ => ?_) ?_; rotate_left 1; focus ((conv => (arg 4; arg 1; whnf)); (repeat (first | exact hK_ rfl | (go_big_may; (go_at_call 180; (with_reducible refine (spec_Addr _ _).mono ?_); rintro e w1 ⟨rfl, rfl⟩)) | go_step | go_guarded | go_upon | dsimp only)); done)))); refine T_end ?_
    refine F_eA (ls' := #[true, true, true, true, true, true, true, true, true]) (pend' := []) 8 ?_; intro K_ hK_; (conv => (arg 4; arg 1; whnf)); (repeat (first | refine hK_ _ _ rfl ?_ ?_ | (go_big_may; (first | ((with_reducible refine g_load rfl ?_); first | refine eL1 H ?_ | refine eLa H ?_) | ((with_reducible refine g_store rfl ?_); (first | refine eSi H ?_ | refine eSb H ?_ | refine eSa H ?_); clear H; intro W_ H))) | go_step | go_guarded | go_upon | dsimp only)); exact kept_nil
    refine F_done (by kernel_rfl) ?_
    go_upto_region 33 with (first | (go_at_call 220; (with_reducible refine (spec_l7Alu ⟨ca, cx, s, (pc + opLen 28) % 65536, z, n, cc, i⟩ 28 arg v _ ha0 ha1 hx0 hx1 harg).mono ?_); rintro e w1 ⟨rfl, hb⟩; rw [HF.out]; (replace H := H.callB hb; clear hb)) | (go_at_call 180; (with_reducible refine (spec_Addr _ _).mono ?_); rintro e w1 ⟨rfl, rfl⟩) | ((with_reducible refine g_box rfl ?_); refine eBa H ?_; clear H; intro g_ W_ H) | ((with_reducible refine g_alloc rfl ?_); refine eNw H ?_; clear H; intro g_ W_ H) | ((with_reducible refine g_load rfl ?_); first | refine eL1 H ?_ | refine eLa H ?_) | ((with_reducible refine g_store rfl ?_); (first | refine eSi H ?_ | refine eSb H ?_ | refine eSa H ?_); clear H; intro W_ H))
    (with_reducible refine g_draw ?_)
    try simp only [Act.put, List.setIfInBounds_toArray, List.set_cons_succ, List.set_cons_zero]
    refine F_begin (ls := #[false, false, false, false]) (by kernel_rfl) rfl (by kernel_rfl) ?_
    have H_ := H.drew
    (clear H; have H := H_; clear H_)
    refine T_go [(1, 0, 155), (1, 1, 156)] ?_; (repeat (refine T_rA ?_)); refine T_end ?_
    refine F_eA (ls' := #[true, true, true, false]) (pend' := [1]) 2 ?_; intro K_ hK_; (conv => (arg 4; arg 1; whnf)); (repeat (first | refine hK_ _ _ rfl ?_ ?_ | (go_big_may; (first | ((with_reducible refine g_load rfl ?_); first | refine eL1 H ?_ | refine eLa H ?_) | ((with_reducible refine g_store rfl ?_); (first | refine eSi H ?_ | refine eSb H ?_ | refine eSa H ?_); clear H; intro W_ H))) | go_step | go_guarded | go_upon | dsimp only)); (focus (refine kept_cA 1 156 ?_; exact kept_nil))
    refine F_eA (ls' := #[true, true, true, true]) (pend' := []) 3 ?_; intro K_ hK_; (conv => (arg 4; arg 1; whnf)); (repeat (first | refine hK_ _ _ rfl ?_ ?_ | (go_big_may; (first | ((with_reducible refine g_load rfl ?_); first | refine eL1 H ?_ | refine eLa H ?_) | ((with_reducible refine g_store rfl ?_); (first | refine eSi H ?_ | refine eSb H ?_ | refine eSa H ?_); clear H; intro W_ H))) | go_step | go_guarded | go_upon | dsimp only)); exact kept_nil
    refine F_done (by kernel_rfl) ?_
    go_wp2_with (first | ((with_reducible refine g_box rfl ?_); refine eBa H ?_; clear H; intro g_ W_ H) | ((with_reducible refine g_alloc rfl ?_); refine eNw H ?_; clear H; intro g_ W_ H) | ((with_reducible refine g_load rfl ?_); first | refine eL1 H ?_ | refine eLa H ?_) | ((with_reducible refine g_store rfl ?_); (first | refine eSi H ?_ | refine eSb H ?_ | refine eSa H ?_); clear H; intro W_ H))
    have H2 := H.take (xs := [intsA q1_.ram _]) pksA
    refine' back2 Tryz.results194 ?_ ?_ rfl ⟨q1_, ?_, H2⟩; rotate_left 2; exact rvA; exact rvA
    rfl
  · have hr : isReck op = false := by
      simp only [isAlu, Bool.or_eq_false_iff] at hal
      exact hal.1
    have ht : isTurn op = false := by
      simp only [isAlu, Bool.or_eq_false_iff] at hal
      simp only [isTurn, hal.2.1.1.1, hal.2.1.1.2, hal.2.1.2, hal.2.2, h9, h10, h11, h12]
      rfl
    have hz : CpuD.execC ⟨ca, cx, s, pc, z, n, cc, i⟩ x op arg v = ⟨ca, cx, s, (pc + opLen op) % 65536, z, n, cc, i⟩ := by
      simp only [beq_eq_false_iff_ne] at h0 h1 h2 h3 h4 h5 h6 h7 h8 h9 h10 h11 h12
      simp [CpuD.execC, hr, ht, CpuD.flowC, CpuD.nx, h0, h1, h2, h3, h4, h5, h6, h7, h8, h9, h10, h11, h12]
    have hm : x.execM ⟨ca, cx, s, pc, z, n, cc, i⟩ op = x := by
      simp only [beq_eq_false_iff_ne] at h0 h1 h2 h3 h4 h5 h6 h7 h8 h9 h10 h11 h12
      simp [MemD.execM, MemD.flowM, h4, h6]
    rw [hz, hm]
    clear hz hm hr ht
    have HF := Lib.hid hal
    clear hal
    go_enter Tryz.func194, Tryz.ntmps194
    go_upto_region 2 with (first | (go_at_call 98; (with_reducible refine (spec_l6Copy x q _ (hx.on H) hlen2).mono ?_); rintro e w1 ⟨q1_, rfl, kk⟩; replace H := H.cN kk; clear kk) | ((with_reducible refine g_box rfl ?_); refine eBa H ?_; clear H; intro g_ W_ H) | ((with_reducible refine g_alloc rfl ?_); refine eNw H ?_; clear H; intro g_ W_ H) | ((with_reducible refine g_load rfl ?_); first | refine eL1 H ?_ | refine eLa H ?_) | ((with_reducible refine g_store rfl ?_); (first | refine eSi H ?_ | refine eSb H ?_ | refine eSa H ?_); clear H; intro W_ H))
    (with_reducible refine g_draw ?_)
    try simp only [Act.put, List.setIfInBounds_toArray, List.set_cons_succ, List.set_cons_zero]
    refine F_begin (ls := #[false, false, false, false, false, false, false, false, false]) (by kernel_rfl) rfl (by kernel_rfl) ?_
    have H_ := H.drew
    (clear H; have H := H_; clear H_)
    refine T_go [(0, 0, 19), (1, 1, 20), (0, 2, 21), (1, 3, 22)] ?_; (repeat (first | refine T_pA ?_ | refine T_rA ?_)); refine T_end ?_
    refine F_eA (ls' := #[true, true, true, true, true, false, false, false, false]) (pend' := [1]) 4 ?_; intro K_ hK_; (conv => (arg 4; arg 1; whnf)); (repeat (first | refine hK_ _ _ rfl ?_ ?_ | (go_big_may; (go_at_call 211; (with_reducible refine (spec_OpLen _ _).mono ?_); rintro e w1 ⟨rfl, hb⟩; (replace H := H.callB hb; clear hb))) | go_step | go_guarded | go_upon | dsimp only)); (focus (refine kept_cA 1 20 ?_; exact kept_nil))
    refine T_go [(0, 5, 24), (0, 6, 25), (0, 7, 26)] ?_; (repeat ((refine' T_pure _ rfl rfl (by kernel_rfl) (Nat.le_of_ble_eq_true (by kernel_rfl)) (fun w2_ K_ hK_ => ?_) ?_; rotate_left 1; focus ((conv => (arg 4; arg 1; whnf)); (repeat (first | exact hK_ rfl | (go_big_may; (go_at_call 180; (with_reducible refine (spec_Addr _ _).mono ?_); rintro e w1 ⟨rfl, rfl⟩)) | go_step | go_guarded | go_upon | dsimp only)); done)))); refine T_end ?_
    refine F_eA (ls' := #[true, true, true, true, true, true, true, true, true]) (pend' := []) 8 ?_; intro K_ hK_; (conv => (arg 4; arg 1; whnf)); (repeat (first | refine hK_ _ _ rfl ?_ ?_ | (go_big_may; (first | ((with_reducible refine g_load rfl ?_); first | refine eL1 H ?_ | refine eLa H ?_) | ((with_reducible refine g_store rfl ?_); (first | refine eSi H ?_ | refine eSb H ?_ | refine eSa H ?_); clear H; intro W_ H))) | go_step | go_guarded | go_upon | dsimp only)); exact kept_nil
    refine F_done (by kernel_rfl) ?_
    go_upto_region 33 with (first | (go_at_call 220; (with_reducible refine (spec_l7Alu ⟨ca, cx, s, (pc + opLen op) % 65536, z, n, cc, i⟩ op arg v _ ha0 ha1 hx0 hx1 harg).mono ?_); rintro e w1 ⟨rfl, hb⟩; rw [HF.out]; (replace H := H.callB hb; clear hb)) | ((with_reducible refine g_box rfl ?_); refine eBa H ?_; clear H; intro g_ W_ H) | ((with_reducible refine g_alloc rfl ?_); refine eNw H ?_; clear H; intro g_ W_ H) | ((with_reducible refine g_load rfl ?_); first | refine eL1 H ?_ | refine eLa H ?_) | ((with_reducible refine g_store rfl ?_); (first | refine eSi H ?_ | refine eSb H ?_ | refine eSa H ?_); clear H; intro W_ H))
    (with_reducible refine g_draw ?_)
    try simp only [Act.put, List.setIfInBounds_toArray, List.set_cons_succ, List.set_cons_zero]
    refine F_begin (ls := #[false, false, false, false]) (by kernel_rfl) rfl (by kernel_rfl) ?_
    have H_ := H.drew
    (clear H; have H := H_; clear H_)
    refine T_go [(1, 0, 155), (1, 1, 156)] ?_; (repeat (refine T_rA ?_)); refine T_end ?_
    refine F_eA (ls' := #[true, true, true, false]) (pend' := [1]) 2 ?_; intro K_ hK_; (conv => (arg 4; arg 1; whnf)); (repeat (first | refine hK_ _ _ rfl ?_ ?_ | (go_big_may; (first | ((with_reducible refine g_load rfl ?_); first | refine eL1 H ?_ | refine eLa H ?_) | ((with_reducible refine g_store rfl ?_); (first | refine eSi H ?_ | refine eSb H ?_ | refine eSa H ?_); clear H; intro W_ H))) | go_step | go_guarded | go_upon | dsimp only)); (focus (refine kept_cA 1 156 ?_; exact kept_nil))
    refine F_eA (ls' := #[true, true, true, true]) (pend' := []) 3 ?_; intro K_ hK_; (conv => (arg 4; arg 1; whnf)); (repeat (first | refine hK_ _ _ rfl ?_ ?_ | (go_big_may; (first | ((with_reducible refine g_load rfl ?_); first | refine eL1 H ?_ | refine eLa H ?_) | ((with_reducible refine g_store rfl ?_); (first | refine eSi H ?_ | refine eSb H ?_ | refine eSa H ?_); clear H; intro W_ H))) | go_step | go_guarded | go_upon | dsimp only)); exact kept_nil
    refine F_done (by kernel_rfl) ?_
    go_wp2_with (first | ((with_reducible refine g_box rfl ?_); refine eBa H ?_; clear H; intro g_ W_ H) | ((with_reducible refine g_alloc rfl ?_); refine eNw H ?_; clear H; intro g_ W_ H) | ((with_reducible refine g_load rfl ?_); first | refine eL1 H ?_ | refine eLa H ?_) | ((with_reducible refine g_store rfl ?_); (first | refine eSi H ?_ | refine eSb H ?_ | refine eSa H ?_); clear H; intro W_ H))
    have H2 := H.take (xs := [intsA q1_.ram _]) pksA
    refine' back2 Tryz.results194 ?_ ?_ rfl ⟨q1_, ?_, H2⟩; rotate_left 2; exact rvA; exact rvA
    rfl
end Go.Proofs.YtjgggmcnbdjdjaaGreat.C

