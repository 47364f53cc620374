/- Ops that reckon; ops on registers and flags. (written by ygen2.py) -/
import Derived.Test.YtjgggmcnbdjdjaaGreatY15
namespace Go.Proofs.YtjgggmcnbdjdjaaGreat.C
open Go.RowKit Go.Proofs.YtjgggmcnbdjdjaaGreat.K Go.Proofs.YtjgggmcnbdjdjaaGreat.B
attribute [local go_sem] max2_int min2_int max_two min_two i64_and255 i64_and65535 i64_and1
set_option maxRecDepth 20000
set_option linter.unusedVariables false
set_option linter.unusedSimpArgs false
set_option maxRecDepth 20000
def CpuD.addA (c : CpuD) (b : Int) : CpuD := (c.setA (sumB c.a b c.c % 256)).setC (decide (255 < sumB c.a b c.c))
def CpuD.subA (c : CpuD) (b : Int) : CpuD := (c.setA (restB c.a b c.c % 256)).setC (decide (0 ≤ restB c.a b c.c))
def CpuD.cmpA (c : CpuD) (b : Int) : CpuD := ⟨c.a, c.x, c.s, c.pc, restB c.a b true % 256 == 0, decide (127 < restB c.a b true % 256), decide (0 ≤ restB c.a b true), c.i⟩
def CpuD.reck (c : CpuD) (op arg v : Int) : CpuD := if op = 1 then c.setA arg else if op = 2 then c.setA v else if op = 14 then c.setA v else if op = 4 then c.addA arg else if op = 29 then c.addA v else if op = 5 then c.subA arg else if op = 6 then c.setA (bits BinOp.and IntKind.i64 c.a arg) else if op = 7 then c.setA (bits BinOp.or IntKind.i64 c.a arg) else if op = 8 then c.setA (bits BinOp.xor IntKind.i64 c.a arg) else if op = 9 then c.cmpA arg else c
def CpuD.turnR (c : CpuD) (op : Int) : CpuD := if op = 10 then c.setX c.a else if op = 11 then c.setA c.x else if op = 12 then c.setX (c.x + 1) else if op = 13 then c.setX (c.x - 1) else if op = 25 then c.setI true else if op = 26 then c.setI false else if op = 27 then c.setC true else if op = 28 then c.setC false else c
def isReck (op : Int) : Bool := op == 1 || op == 2 || op == 14 || op == 4 || op == 29 || op == 5 || op == 6 || op == 7 || op == 8 || op == 9
def isTurn (op : Int) : Bool := op == 10 || op == 11 || op == 12 || op == 13 || op == 25 || op == 26 || op == 27 || op == 28
set_option maxHeartbeats 16000000 in
theorem impl_reckon_L (c : CpuD) (op arg v : Int) (v0 v1 y0 y1 : Value) (zs : List Value) (g : Nat) (w : World) (H0 : Hol w [Ast.blk g (v0 :: v1 :: y0 :: y1 :: .int .i64 c.a :: .int .i64 c.x :: .int .i64 c.s :: .int .i64 c.pc :: .bool c.z :: .bool c.n :: .bool c.c :: .bool c.i :: zs) 49]) : Calls Tryz.prog 229 #[.pointer (some ⟨g, 4, none⟩), .agg #[.int .i64 op, .int .i64 arg], .int .i64 v] w fun e w' => e = .returned (.bool (isReck op)) ∧ St w [g] w' [Ast.blk g (v0 :: v1 :: y0 :: y1 :: .int .i64 (c.reck op arg v).a :: .int .i64 (c.reck op arg v).x :: .int .i64 (c.reck op arg v).s :: .int .i64 (c.reck op arg v).pc :: .bool (c.reck op arg v).z :: .bool (c.reck op arg v).n :: .bool (c.reck op arg v).c :: .bool (c.reck op arg v).i :: zs) 49] := by
  have H := H0.st
  clear H0
  have hc : op = 1 ∨ op = 2 ∨ op = 14 ∨ op = 4 ∨ op = 29 ∨ op = 5 ∨ op = 6 ∨ op = 7 ∨ op = 8 ∨ op = 9 ∨ ((op == 1) = false ∧ (op == 2) = false ∧ (op == 14) = false ∧ (op == 4) = false ∧ (op == 29) = false ∧ (op == 5) = false ∧ (op == 6) = false ∧ (op == 7) = false ∧ (op == 8) = false ∧ (op == 9) = false) := by
    simp only [beq_eq_false_iff_ne]; omega
  rcases hc with rfl | rfl | rfl | rfl | rfl | rfl | rfl | rfl | rfl | rfl | ⟨h0, h1, h2, h3, h4, h5, h6, h7, h8, h9⟩
  · have hz : c.reck 1 arg v = c.setA arg := by simp [CpuD.reck]
    rw [hz]
    clear hz
    go_enter Tryz.func229, Tryz.ntmps229
    go_upto_region 4 with (first | (go_at_call 242; (with_reducible refine (impl_SetA _ _ _).mono ?_); rintro e w1 ⟨rfl, hb⟩; (replace H := H.callB hb; clear hb)) | (go_at_call 245; (with_reducible refine (impl_Signs _ _).mono ?_); rintro e w1 ⟨rfl, rfl⟩) | (go_at_call 243; (with_reducible refine (impl_Add8 _ _ _ _).mono ?_); rintro e w1 ⟨rfl, rfl⟩) | (go_at_call 244; (with_reducible refine (impl_Sub8 _ _ _ _).mono ?_); rintro e w1 ⟨rfl, rfl⟩) | ((with_reducible refine g_box rfl ?_); refine eBa H ?_; clear H; intro g_ W_ H) | ((with_reducible refine g_load rfl ?_); first | refine eL1 H ?_ | refine eLa H ?_) | ((with_reducible refine g_store rfl ?_); (first | refine eSb H ?_ | refine eSa H ?_); clear H; intro W_ H))
    (with_reducible refine g_draw ?_)
    try simp only [Act.put, List.setIfInBounds_toArray, List.set_cons_succ, List.set_cons_zero]
    refine F_begin (ls := #[false, false, false, false, false, false, false, false, false]) (by kernel_rfl) rfl (by kernel_rfl) ?_
    have H_ := H.drew
    (clear H; have H := H_; clear H_)
    refine T_go [(0, 0, 18), (0, 1, 19), (0, 2, 20), (1, 3, 21), (0, 4, 22), (1, 5, 23)] ?_; (repeat (first | refine T_pA ?_ | refine T_rA ?_)); refine T_end ?_
    refine F_eA (ls' := #[true, true, true, true, true, true, true, false, false]) (pend' := []) 6 ?_; intro K_ hK_; (conv => (arg 4; arg 1; whnf)); (repeat (first | refine hK_ _ _ rfl ?_ ?_ | (go_big_may; (go_at_call 242; (with_reducible refine (impl_SetA _ _ _).mono ?_); rintro e w1 ⟨rfl, hb⟩; (replace H := H.callB hb; clear hb))) | go_step | go_guarded | go_upon | dsimp only)); exact kept_nil
    refine T_go [(0, 7, 25)] ?_; (repeat (refine T_pA ?_)); refine T_end ?_
    refine F_eA (ls' := #[true, true, true, true, true, true, true, true, true]) (pend' := []) 8 ?_; intro K_ hK_; (conv => (arg 4; arg 1; whnf)); (repeat (first | refine hK_ _ _ rfl ?_ ?_ | (go_big_may; (first | ((with_reducible refine g_load rfl ?_); first | refine eL1 H ?_ | refine eLa H ?_) | ((with_reducible refine g_store rfl ?_); (first | refine eSb H ?_ | refine eSa H ?_); clear H; intro W_ H))) | go_step | go_guarded | go_upon | dsimp only)); exact kept_nil
    refine F_done (by kernel_rfl) ?_
    go_wp2_with (first | (go_at_call 242; (with_reducible refine (impl_SetA _ _ _).mono ?_); rintro e w1 ⟨rfl, hb⟩; (replace H := H.callB hb; clear hb)) | (go_at_call 245; (with_reducible refine (impl_Signs _ _).mono ?_); rintro e w1 ⟨rfl, rfl⟩) | (go_at_call 243; (with_reducible refine (impl_Add8 _ _ _ _).mono ?_); rintro e w1 ⟨rfl, rfl⟩) | (go_at_call 244; (with_reducible refine (impl_Sub8 _ _ _ _).mono ?_); rintro e w1 ⟨rfl, rfl⟩) | ((with_reducible refine g_box rfl ?_); refine eBa H ?_; clear H; intro g_ W_ H) | ((with_reducible refine g_load rfl ?_); first | refine eL1 H ?_ | refine eLa H ?_) | ((with_reducible refine g_store rfl ?_); (first | refine eSb H ?_ | refine eSa H ?_); clear H; intro W_ H))
    have H_ := H.take (xs := [Ast.blk g _ _]) pksA
    refine' back1 Tryz.results229 ?_ rfl ⟨?_, H_⟩; rotate_left 1; exact rvA
    rfl
  · have hz : c.reck 2 arg v = c.setA v := by simp [CpuD.reck]
    rw [hz]
    clear hz
    go_enter Tryz.func229, Tryz.ntmps229
    go_wp2_with (first | (go_at_call 242; (with_reducible refine (impl_SetA _ _ _).mono ?_); rintro e w1 ⟨rfl, hb⟩; (replace H := H.callB hb; clear hb)) | (go_at_call 245; (with_reducible refine (impl_Signs _ _).mono ?_); rintro e w1 ⟨rfl, rfl⟩) | (go_at_call 243; (with_reducible refine (impl_Add8 _ _ _ _).mono ?_); rintro e w1 ⟨rfl, rfl⟩) | (go_at_call 244; (with_reducible refine (impl_Sub8 _ _ _ _).mono ?_); rintro e w1 ⟨rfl, rfl⟩) | ((with_reducible refine g_box rfl ?_); refine eBa H ?_; clear H; intro g_ W_ H) | ((with_reducible refine g_load rfl ?_); first | refine eL1 H ?_ | refine eLa H ?_) | ((with_reducible refine g_store rfl ?_); (first | refine eSb H ?_ | refine eSa H ?_); clear H; intro W_ H))
    have H_ := H.take (xs := [Ast.blk g _ _]) pksA
    refine' back1 Tryz.results229 ?_ rfl ⟨?_, H_⟩; rotate_left 1; exact rvA
    rfl
  · have hz : c.reck 14 arg v = c.setA v := by simp [CpuD.reck]
    rw [hz]
    clear hz
    go_enter Tryz.func229, Tryz.ntmps229
    go_wp2_with (first | (go_at_call 242; (with_reducible refine (impl_SetA _ _ _).mono ?_); rintro e w1 ⟨rfl, hb⟩; (replace H := H.callB hb; clear hb)) | (go_at_call 245; (with_reducible refine (impl_Signs _ _).mono ?_); rintro e w1 ⟨rfl, rfl⟩) | (go_at_call 243; (with_reducible refine (impl_Add8 _ _ _ _).mono ?_); rintro e w1 ⟨rfl, rfl⟩) | (go_at_call 244; (with_reducible refine (impl_Sub8 _ _ _ _).mono ?_); rintro e w1 ⟨rfl, rfl⟩) | ((with_reducible refine g_box rfl ?_); refine eBa H ?_; clear H; intro g_ W_ H) | ((with_reducible refine g_load rfl ?_); first | refine eL1 H ?_ | refine eLa H ?_) | ((with_reducible refine g_store rfl ?_); (first | refine eSb H ?_ | refine eSa H ?_); clear H; intro W_ H))
    have H_ := H.take (xs := [Ast.blk g _ _]) pksA
    refine' back1 Tryz.results229 ?_ rfl ⟨?_, H_⟩; rotate_left 1; exact rvA
    rfl
  · have hz : c.reck 4 arg v = c.addA arg := by simp [CpuD.reck]
    rw [hz]
    clear hz
    go_enter Tryz.func229, Tryz.ntmps229
    go_upto_region 13 with (first | (go_at_call 242; (with_reducible refine (impl_SetA _ _ _).mono ?_); rintro e w1 ⟨rfl, hb⟩; (replace H := H.callB hb; clear hb)) | (go_at_call 245; (with_reducible refine (impl_Signs _ _).mono ?_); rintro e w1 ⟨rfl, rfl⟩) | (go_at_call 243; (with_reducible refine (impl_Add8 _ _ _ _).mono ?_); rintro e w1 ⟨rfl, rfl⟩) | (go_at_call 244; (with_reducible refine (impl_Sub8 _ _ _ _).mono ?_); rintro e w1 ⟨rfl, rfl⟩) | ((with_reducible refine g_box rfl ?_); refine eBa H ?_; clear H; intro g_ W_ H) | ((with_reducible refine g_load rfl ?_); first | refine eL1 H ?_ | refine eLa H ?_) | ((with_reducible refine g_store rfl ?_); (first | refine eSb H ?_ | refine eSa H ?_); clear H; intro W_ H))
    (with_reducible refine g_draw ?_)
    try simp only [Act.put, List.setIfInBounds_toArray, List.set_cons_succ, List.set_cons_zero]
    refine F_begin (ls := #[false, false, false, false, false, false, false, false, false, false, false, false, false, false, false]) (by kernel_rfl) rfl (by kernel_rfl) ?_
    have H_ := H.drew
    (clear H; have H := H_; clear H_)
    refine T_go [(0, 0, 46), (0, 1, 47), (0, 2, 48), (1, 3, 49), (0, 4, 50), (0, 5, 51), (0, 6, 52), (0, 7, 53), (1, 8, 54), (0, 9, 55), (0, 10, 45), (0, 11, 56), (0, 12, 57), (0, 13, 8), (0, 14, 9)] ?_; (repeat (first | (refine' T_pure _ rfl rfl (by kernel_rfl) (Nat.le_of_ble_eq_true (by kernel_rfl)) (fun w2_ K_ hK_ => ?_) ?_; rotate_left 1; focus ((conv => (arg 4; arg 1; whnf)); (repeat (first | exact hK_ rfl | (go_big_may; (first | (go_at_call 243; (with_reducible refine (impl_Add8 _ _ _ _).mono ?_); rintro e w1 ⟨rfl, rfl⟩) | ((with_reducible refine g_load rfl ?_); first | refine eL1 H ?_ | refine eLa H ?_) | ((with_reducible refine g_store rfl ?_); (first | refine eSb H ?_ | refine eSa H ?_); clear H; intro W_ H))) | go_step | go_guarded | go_upon | dsimp only)); done)) | (refine' T_read _ rfl rfl (by kernel_rfl) (Nat.le_of_ble_eq_true (by kernel_rfl)) (fun K_ hK_ => ?_) ?_; rotate_left 1; focus ((conv => (arg 4; arg 1; whnf)); (repeat (first | exact hK_ rfl | (go_big_may; (first | (go_at_call 243; (with_reducible refine (impl_Add8 _ _ _ _).mono ?_); rintro e w1 ⟨rfl, rfl⟩) | ((with_reducible refine g_load rfl ?_); first | refine eL1 H ?_ | refine eLa H ?_) | ((with_reducible refine g_store rfl ?_); (first | refine eSb H ?_ | refine eSa H ?_); clear H; intro W_ H))) | go_step | go_guarded | go_upon | dsimp only)); done)))); refine T_end ?_
    refine F_done (by kernel_rfl) ?_
    go_wp2_with (first | (go_at_call 242; (with_reducible refine (impl_SetA _ _ _).mono ?_); rintro e w1 ⟨rfl, hb⟩; (replace H := H.callB hb; clear hb)) | (go_at_call 245; (with_reducible refine (impl_Signs _ _).mono ?_); rintro e w1 ⟨rfl, rfl⟩) | (go_at_call 243; (with_reducible refine (impl_Add8 _ _ _ _).mono ?_); rintro e w1 ⟨rfl, rfl⟩) | (go_at_call 244; (with_reducible refine (impl_Sub8 _ _ _ _).mono ?_); rintro e w1 ⟨rfl, rfl⟩) | ((with_reducible refine g_box rfl ?_); refine eBa H ?_; clear H; intro g_ W_ H) | ((with_reducible refine g_load rfl ?_); first | refine eL1 H ?_ | refine eLa H ?_) | ((with_reducible refine g_store rfl ?_); (first | refine eSb H ?_ | refine eSa H ?_); clear H; intro W_ H))
    have H_ := H.take (xs := [Ast.blk g _ _]) pksA
    refine' back1 Tryz.results229 ?_ rfl ⟨?_, H_⟩; rotate_left 1; exact rvA
    rfl
  · have hz : c.reck 29 arg v = c.addA v := by simp [CpuD.reck]
    rw [hz]
    clear hz
    go_enter Tryz.func229, Tryz.ntmps229
    go_upto_region 13 with (first | (go_at_call 242; (with_reducible refine (impl_SetA _ _ _).mono ?_); rintro e w1 ⟨rfl, hb⟩; (replace H := H.callB hb; clear hb)) | (go_at_call 245; (with_reducible refine (impl_Signs _ _).mono ?_); rintro e w1 ⟨rfl, rfl⟩) | (go_at_call 243; (with_reducible refine (impl_Add8 _ _ _ _).mono ?_); rintro e w1 ⟨rfl, rfl⟩) | (go_at_call 244; (with_reducible refine (impl_Sub8 _ _ _ _).mono ?_); rintro e w1 ⟨rfl, rfl⟩) | ((with_reducible refine g_box rfl ?_); refine eBa H ?_; clear H; intro g_ W_ H) | ((with_reducible refine g_load rfl ?_); first | refine eL1 H ?_ | refine eLa H ?_) | ((with_reducible refine g_store rfl ?_); (first | refine eSb H ?_ | refine eSa H ?_); clear H; intro W_ H))
    (with_reducible refine g_draw ?_)
    try simp only [Act.put, List.setIfInBounds_toArray, List.set_cons_succ, List.set_cons_zero]
    refine F_begin (ls := #[false, false, false, false, false, false, false, false, false, false, false, false, false, false, false]) (by kernel_rfl) rfl (by kernel_rfl) ?_
    have H_ := H.drew
    (clear H; have H := H_; clear H_)
    refine T_go [(0, 0, 46), (0, 1, 47), (0, 2, 48), (1, 3, 49), (0, 4, 50), (0, 5, 51), (0, 6, 52), (0, 7, 53), (1, 8, 54), (0, 9, 55), (0, 10, 45), (0, 11, 56), (0, 12, 57), (0, 13, 8), (0, 14, 9)] ?_; (repeat (first | (refine' T_pure _ rfl rfl (by kernel_rfl) (Nat.le_of_ble_eq_true (by kernel_rfl)) (fun w2_ K_ hK_ => ?_) ?_; rotate_left 1; focus ((conv => (arg 4; arg 1; whnf)); (repeat (first | exact hK_ rfl | (go_big_may; (first | (go_at_call 243; (with_reducible refine (impl_Add8 _ _ _ _).mono ?_); rintro e w1 ⟨rfl, rfl⟩) | ((with_reducible refine g_load rfl ?_); first | refine eL1 H ?_ | refine eLa H ?_) | ((with_reducible refine g_store rfl ?_); (first | refine eSb H ?_ | refine eSa H ?_); clear H; intro W_ H))) | go_step | go_guarded | go_upon | dsimp only)); done)) | (refine' T_read _ rfl rfl (by kernel_rfl) (Nat.le_of_ble_eq_true (by kernel_rfl)) (fun K_ hK_ => ?_) ?_; rotate_left 1; focus ((conv => (arg 4; arg 1; whnf)); (repeat (first | exact hK_ rfl | (go_big_may; (first | (go_at_call 243; (with_reducible refine (impl_Add8 _ _ _ _).mono ?_); rintro e w1 ⟨rfl, rfl⟩) | ((with_reducible refine g_load rfl ?_); first | refine eL1 H ?_ | refine eLa H ?_) | ((with_reducible refine g_store rfl ?_); (first | refine eSb H ?_ | refine eSa H ?_); clear H; intro W_ H))) | go_step | go_guarded | go_upon | dsimp only)); done)))); refine T_end ?_
    refine F_done (by kernel_rfl) ?_
    go_wp2_with (first | (go_at_call 242; (with_reducible refine (impl_SetA _ _ _).mono ?_); rintro e w1 ⟨rfl, hb⟩; (replace H := H.callB hb; clear hb)) | (go_at_call 245; (with_reducible refine (impl_Signs _ _).mono ?_); rintro e w1 ⟨rfl, rfl⟩) | (go_at_call 243; (with_reducible refine (impl_Add8 _ _ _ _).mono ?_); rintro e w1 ⟨rfl, rfl⟩) | (go_at_call 244; (with_reducible refine (impl_Sub8 _ _ _ _).mono ?_); rintro e w1 ⟨rfl, rfl⟩) | ((with_reducible refine g_box rfl ?_); refine eBa H ?_; clear H; intro g_ W_ H) | ((with_reducible refine g_load rfl ?_); first | refine eL1 H ?_ | refine eLa H ?_) | ((with_reducible refine g_store rfl ?_); (first | refine eSb H ?_ | refine eSa H ?_); clear H; intro W_ H))
    have H_ := H.take (xs := [Ast.blk g _ _]) pksA
    refine' back1 Tryz.results229 ?_ rfl ⟨?_, H_⟩; rotate_left 1; exact rvA
    rfl
  · have hz : c.reck 5 arg v = c.subA arg := by simp [CpuD.reck]
    rw [hz]
    clear hz
    go_enter Tryz.func229, Tryz.ntmps229
    go_upto_region 17 with (first | (go_at_call 242; (with_reducible refine (impl_SetA _ _ _).mono ?_); rintro e w1 ⟨rfl, hb⟩; (replace H := H.callB hb; clear hb)) | (go_at_call 245; (with_reducible refine (impl_Signs _ _).mono ?_); rintro e w1 ⟨rfl, rfl⟩) | (go_at_call 243; (with_reducible refine (impl_Add8 _ _ _ _).mono ?_); rintro e w1 ⟨rfl, rfl⟩) | (go_at_call 244; (with_reducible refine (impl_Sub8 _ _ _ _).mono ?_); rintro e w1 ⟨rfl, rfl⟩) | ((with_reducible refine g_box rfl ?_); refine eBa H ?_; clear H; intro g_ W_ H) | ((with_reducible refine g_load rfl ?_); first | refine eL1 H ?_ | refine eLa H ?_) | ((with_reducible refine g_store rfl ?_); (first | refine eSb H ?_ | refine eSa H ?_); clear H; intro W_ H))
    (with_reducible refine g_draw ?_)
    try simp only [Act.put, List.setIfInBounds_toArray, List.set_cons_succ, List.set_cons_zero]
    refine F_begin (ls := #[false, false, false, false, false, false, false, false, false, false, false, false, false, false, false, false]) (by kernel_rfl) rfl (by kernel_rfl) ?_
    have H_ := H.drew
    (clear H; have H := H_; clear H_)
    refine T_go [(0, 0, 72), (0, 1, 73), (0, 2, 74), (1, 3, 75), (0, 4, 76), (1, 5, 77), (0, 6, 78), (0, 7, 79), (0, 8, 80), (1, 9, 81), (0, 10, 82), (0, 11, 71), (0, 12, 83), (0, 13, 84), (0, 14, 10), (0, 15, 11)] ?_; (repeat (first | (refine' T_pure _ rfl rfl (by kernel_rfl) (Nat.le_of_ble_eq_true (by kernel_rfl)) (fun w2_ K_ hK_ => ?_) ?_; rotate_left 1; focus ((conv => (arg 4; arg 1; whnf)); (repeat (first | exact hK_ rfl | (go_big_may; (first | (go_at_call 244; (with_reducible refine (impl_Sub8 _ _ _ _).mono ?_); rintro e w1 ⟨rfl, rfl⟩) | ((with_reducible refine g_load rfl ?_); first | refine eL1 H ?_ | refine eLa H ?_) | ((with_reducible refine g_store rfl ?_); (first | refine eSb H ?_ | refine eSa H ?_); clear H; intro W_ H))) | go_step | go_guarded | go_upon | dsimp only)); done)) | (refine' T_read _ rfl rfl (by kernel_rfl) (Nat.le_of_ble_eq_true (by kernel_rfl)) (fun K_ hK_ => ?_) ?_; rotate_left 1; focus ((conv => (arg 4; arg 1; whnf)); (repeat (first | exact hK_ rfl | (go_big_may; (first | (go_at_call 244; (with_reducible refine (impl_Sub8 _ _ _ _).mono ?_); rintro e w1 ⟨rfl, rfl⟩) | ((with_reducible refine g_load rfl ?_); first | refine eL1 H ?_ | refine eLa H ?_) | ((with_reducible refine g_store rfl ?_); (first | refine eSb H ?_ | refine eSa H ?_); clear H; intro W_ H))) | go_step | go_guarded | go_upon | dsimp only)); done)))); refine T_end ?_
    refine F_done (by kernel_rfl) ?_
    go_wp2_with (first | (go_at_call 242; (with_reducible refine (impl_SetA _ _ _).mono ?_); rintro e w1 ⟨rfl, hb⟩; (replace H := H.callB hb; clear hb)) | (go_at_call 245; (with_reducible refine (impl_Signs _ _).mono ?_); rintro e w1 ⟨rfl, rfl⟩) | (go_at_call 243; (with_reducible refine (impl_Add8 _ _ _ _).mono ?_); rintro e w1 ⟨rfl, rfl⟩) | (go_at_call 244; (with_reducible refine (impl_Sub8 _ _ _ _).mono ?_); rintro e w1 ⟨rfl, rfl⟩) | ((with_reducible refine g_box rfl ?_); refine eBa H ?_; clear H; intro g_ W_ H) | ((with_reducible refine g_load rfl ?_); first | refine eL1 H ?_ | refine eLa H ?_) | ((with_reducible refine g_store rfl ?_); (first | refine eSb H ?_ | refine eSa H ?_); clear H; intro W_ H))
    have H_ := H.take (xs := [Ast.blk g _ _]) pksA
    refine' back1 Tryz.results229 ?_ rfl ⟨?_, H_⟩; rotate_left 1; exact rvA
    rfl
  · have hz : c.reck 6 arg v = c.setA (bits BinOp.and IntKind.i64 c.a arg) := by simp [CpuD.reck]
    rw [hz]
    clear hz
    go_enter Tryz.func229, Tryz.ntmps229
    go_upto_region 21 with (first | (go_at_call 242; (with_reducible refine (impl_SetA _ _ _).mono ?_); rintro e w1 ⟨rfl, hb⟩; (replace H := H.callB hb; clear hb)) | (go_at_call 245; (with_reducible refine (impl_Signs _ _).mono ?_); rintro e w1 ⟨rfl, rfl⟩) | (go_at_call 243; (with_reducible refine (impl_Add8 _ _ _ _).mono ?_); rintro e w1 ⟨rfl, rfl⟩) | (go_at_call 244; (with_reducible refine (impl_Sub8 _ _ _ _).mono ?_); rintro e w1 ⟨rfl, rfl⟩) | ((with_reducible refine g_box rfl ?_); refine eBa H ?_; clear H; intro g_ W_ H) | ((with_reducible refine g_load rfl ?_); first | refine eL1 H ?_ | refine eLa H ?_) | ((with_reducible refine g_store rfl ?_); (first | refine eSb H ?_ | refine eSa H ?_); clear H; intro W_ H))
    (with_reducible refine g_draw ?_)
    try simp only [Act.put, List.setIfInBounds_toArray, List.set_cons_succ, List.set_cons_zero]
    refine F_begin (ls := #[false, false, false, false, false, false, false, false, false, false, false, false, false, false]) (by kernel_rfl) rfl (by kernel_rfl) ?_
    have H_ := H.drew
    (clear H; have H := H_; clear H_)
    refine T_go [(0, 0, 98), (0, 1, 99), (0, 2, 100), (1, 3, 101), (0, 4, 102), (0, 5, 103), (0, 6, 104), (1, 7, 105), (0, 8, 106), (1, 9, 107), (0, 10, 108)] ?_; (repeat (first | refine T_pA ?_ | refine T_rA ?_)); refine T_end ?_
    refine F_eA (ls' := #[true, true, true, true, true, true, true, true, true, true, true, true, false, false]) (pend' := []) 11 ?_; intro K_ hK_; (conv => (arg 4; arg 1; whnf)); (repeat (first | refine hK_ _ _ rfl ?_ ?_ | (go_big_may; (go_at_call 242; (with_reducible refine (impl_SetA _ _ _).mono ?_); rintro e w1 ⟨rfl, hb⟩; (replace H := H.callB hb; clear hb))) | go_step | go_guarded | go_upon | dsimp only)); exact kept_nil
    refine T_go [(0, 12, 110)] ?_; (repeat (refine T_pA ?_)); refine T_end ?_
    refine F_eA (ls' := #[true, true, true, true, true, true, true, true, true, true, true, true, true, true]) (pend' := []) 13 ?_; intro K_ hK_; (conv => (arg 4; arg 1; whnf)); (repeat (first | refine hK_ _ _ rfl ?_ ?_ | (go_big_may; (first | ((with_reducible refine g_load rfl ?_); first | refine eL1 H ?_ | refine eLa H ?_) | ((with_reducible refine g_store rfl ?_); (first | refine eSb H ?_ | refine eSa H ?_); clear H; intro W_ H))) | go_step | go_guarded | go_upon | dsimp only)); exact kept_nil
    refine F_done (by kernel_rfl) ?_
    go_wp2_with (first | (go_at_call 242; (with_reducible refine (impl_SetA _ _ _).mono ?_); rintro e w1 ⟨rfl, hb⟩; (replace H := H.callB hb; clear hb)) | (go_at_call 245; (with_reducible refine (impl_Signs _ _).mono ?_); rintro e w1 ⟨rfl, rfl⟩) | (go_at_call 243; (with_reducible refine (impl_Add8 _ _ _ _).mono ?_); rintro e w1 ⟨rfl, rfl⟩) | (go_at_call 244; (with_reducible refine (impl_Sub8 _ _ _ _).mono ?_); rintro e w1 ⟨rfl, rfl⟩) | ((with_reducible refine g_box rfl ?_); refine eBa H ?_; clear H; intro g_ W_ H) | ((with_reducible refine g_load rfl ?_); first | refine eL1 H ?_ | refine eLa H ?_) | ((with_reducible refine g_store rfl ?_); (first | refine eSb H ?_ | refine eSa H ?_); clear H; intro W_ H))
    have H_ := H.take (xs := [Ast.blk g _ _]) pksA
    refine' back1 Tryz.results229 ?_ rfl ⟨?_, H_⟩; rotate_left 1; exact rvA
    rfl
  · have hz : c.reck 7 arg v = c.setA (bits BinOp.or IntKind.i64 c.a arg) := by simp [CpuD.reck]
    rw [hz]
    clear hz
    go_enter Tryz.func229, Tryz.ntmps229
    go_upto_region 23 with (first | (go_at_call 242; (with_reducible refine (impl_SetA _ _ _).mono ?_); rintro e w1 ⟨rfl, hb⟩; (replace H := H.callB hb; clear hb)) | (go_at_call 245; (with_reducible refine (impl_Signs _ _).mono ?_); rintro e w1 ⟨rfl, rfl⟩) | (go_at_call 243; (with_reducible refine (impl_Add8 _ _ _ _).mono ?_); rintro e w1 ⟨rfl, rfl⟩) | (go_at_call 244; (with_reducible refine (impl_Sub8 _ _ _ _).mono ?_); rintro e w1 ⟨rfl, rfl⟩) | ((with_reducible refine g_box rfl ?_); refine eBa H ?_; clear H; intro g_ W_ H) | ((with_reducible refine g_load rfl ?_); first | refine eL1 H ?_ | refine eLa H ?_) | ((with_reducible refine g_store rfl ?_); (first | refine eSb H ?_ | refine eSa H ?_); clear H; intro W_ H))
    (with_reducible refine g_draw ?_)
    try simp only [Act.put, List.setIfInBounds_toArray, List.set_cons_succ, List.set_cons_zero]
    refine F_begin (ls := #[false, false, false, false, false, false, false, false, false, false, false, false, false, false]) (by kernel_rfl) rfl (by kernel_rfl) ?_
    have H_ := H.drew
    (clear H; have H := H_; clear H_)
    refine T_go [(0, 0, 113), (0, 1, 114), (0, 2, 115), (1, 3, 116), (0, 4, 117), (0, 5, 118), (0, 6, 119), (1, 7, 120), (0, 8, 121), (1, 9, 122), (0, 10, 123)] ?_; (repeat (first | refine T_pA ?_ | refine T_rA ?_)); refine T_end ?_
    refine F_eA (ls' := #[true, true, true, true, true, true, true, true, true, true, true, true, false, false]) (pend' := []) 11 ?_; intro K_ hK_; (conv => (arg 4; arg 1; whnf)); (repeat (first | refine hK_ _ _ rfl ?_ ?_ | (go_big_may; (go_at_call 242; (with_reducible refine (impl_SetA _ _ _).mono ?_); rintro e w1 ⟨rfl, hb⟩; (replace H := H.callB hb; clear hb))) | go_step | go_guarded | go_upon | dsimp only)); exact kept_nil
    refine T_go [(0, 12, 125)] ?_; (repeat (refine T_pA ?_)); refine T_end ?_
    refine F_eA (ls' := #[true, true, true, true, true, true, true, true, true, true, true, true, true, true]) (pend' := []) 13 ?_; intro K_ hK_; (conv => (arg 4; arg 1; whnf)); (repeat (first | refine hK_ _ _ rfl ?_ ?_ | (go_big_may; (first | ((with_reducible refine g_load rfl ?_); first | refine eL1 H ?_ | refine eLa H ?_) | ((with_reducible refine g_store rfl ?_); (first | refine eSb H ?_ | refine eSa H ?_); clear H; intro W_ H))) | go_step | go_guarded | go_upon | dsimp only)); exact kept_nil
    refine F_done (by kernel_rfl) ?_
    go_wp2_with (first | (go_at_call 242; (with_reducible refine (impl_SetA _ _ _).mono ?_); rintro e w1 ⟨rfl, hb⟩; (replace H := H.callB hb; clear hb)) | (go_at_call 245; (with_reducible refine (impl_Signs _ _).mono ?_); rintro e w1 ⟨rfl, rfl⟩) | (go_at_call 243; (with_reducible refine (impl_Add8 _ _ _ _).mono ?_); rintro e w1 ⟨rfl, rfl⟩) | (go_at_call 244; (with_reducible refine (impl_Sub8 _ _ _ _).mono ?_); rintro e w1 ⟨rfl, rfl⟩) | ((with_reducible refine g_box rfl ?_); refine eBa H ?_; clear H; intro g_ W_ H) | ((with_reducible refine g_load rfl ?_); first | refine eL1 H ?_ | refine eLa H ?_) | ((with_reducible refine g_store rfl ?_); (first | refine eSb H ?_ | refine eSa H ?_); clear H; intro W_ H))
    have H_ := H.take (xs := [Ast.blk g _ _]) pksA
    refine' back1 Tryz.results229 ?_ rfl ⟨?_, H_⟩; rotate_left 1; exact rvA
    rfl
  · have hz : c.reck 8 arg v = c.setA (bits BinOp.xor IntKind.i64 c.a arg) := by simp [CpuD.reck]
    rw [hz]
    clear hz
    go_enter Tryz.func229, Tryz.ntmps229
    go_upto_region 25 with (first | (go_at_call 242; (with_reducible refine (impl_SetA _ _ _).mono ?_); rintro e w1 ⟨rfl, hb⟩; (replace H := H.callB hb; clear hb)) | (go_at_call 245; (with_reducible refine (impl_Signs _ _).mono ?_); rintro e w1 ⟨rfl, rfl⟩) | (go_at_call 243; (with_reducible refine (impl_Add8 _ _ _ _).mono ?_); rintro e w1 ⟨rfl, rfl⟩) | (go_at_call 244; (with_reducible refine (impl_Sub8 _ _ _ _).mono ?_); rintro e w1 ⟨rfl, rfl⟩) | ((with_reducible refine g_box rfl ?_); refine eBa H ?_; clear H; intro g_ W_ H) | ((with_reducible refine g_load rfl ?_); first | refine eL1 H ?_ | refine eLa H ?_) | ((with_reducible refine g_store rfl ?_); (first | refine eSb H ?_ | refine eSa H ?_); clear H; intro W_ H))
    (with_reducible refine g_draw ?_)
    try simp only [Act.put, List.setIfInBounds_toArray, List.set_cons_succ, List.set_cons_zero]
    refine F_begin (ls := #[false, false, false, false, false, false, false, false, false, false, false, false, false, false]) (by kernel_rfl) rfl (by kernel_rfl) ?_
    have H_ := H.drew
    (clear H; have H := H_; clear H_)
    refine T_go [(0, 0, 128), (0, 1, 129), (0, 2, 130), (1, 3, 131), (0, 4, 132), (0, 5, 133), (0, 6, 134), (1, 7, 135), (0, 8, 136), (1, 9, 137), (0, 10, 138)] ?_; (repeat (first | refine T_pA ?_ | refine T_rA ?_)); refine T_end ?_
    refine F_eA (ls' := #[true, true, true, true, true, true, true, true, true, true, true, true, false, false]) (pend' := []) 11 ?_; intro K_ hK_; (conv => (arg 4; arg 1; whnf)); (repeat (first | refine hK_ _ _ rfl ?_ ?_ | (go_big_may; (go_at_call 242; (with_reducible refine (impl_SetA _ _ _).mono ?_); rintro e w1 ⟨rfl, hb⟩; (replace H := H.callB hb; clear hb))) | go_step | go_guarded | go_upon | dsimp only)); exact kept_nil
    refine T_go [(0, 12, 140)] ?_; (repeat (refine T_pA ?_)); refine T_end ?_
    refine F_eA (ls' := #[true, true, true, true, true, true, true, true, true, true, true, true, true, true]) (pend' := []) 13 ?_; intro K_ hK_; (conv => (arg 4; arg 1; whnf)); (repeat (first | refine hK_ _ _ rfl ?_ ?_ | (go_big_may; (first | ((with_reducible refine g_load rfl ?_); first | refine eL1 H ?_ | refine eLa H ?_) | ((with_reducible refine g_store rfl ?_); (first | refine eSb H ?_ | refine eSa H ?_); clear H; intro W_ H))) | go_step | go_guarded | go_upon | dsimp only)); exact kept_nil
    refine F_done (by kernel_rfl) ?_
    go_wp2_with (first | (go_at_call 242; (with_reducible refine (impl_SetA _ _ _).mono ?_); rintro e w1 ⟨rfl, hb⟩; (replace H := H.callB hb; clear hb)) | (go_at_call 245; (with_reducible refine (impl_Signs _ _).mono ?_); rintro e w1 ⟨rfl, rfl⟩) | (go_at_call 243; (with_reducible refine (impl_Add8 _ _ _ _).mono ?_); rintro e w1 ⟨rfl, rfl⟩) | (go_at_call 244; (with_reducible refine (impl_Sub8 _ _ _ _).mono ?_); rintro e w1 ⟨rfl, rfl⟩) | ((with_reducible refine g_box rfl ?_); refine eBa H ?_; clear H; intro g_ W_ H) | ((with_reducible refine g_load rfl ?_); first | refine eL1 H ?_ | refine eLa H ?_) | ((with_reducible refine g_store rfl ?_); (first | refine eSb H ?_ | refine eSa H ?_); clear H; intro W_ H))
    have H_ := H.take (xs := [Ast.blk g _ _]) pksA
    refine' back1 Tryz.results229 ?_ rfl ⟨?_, H_⟩; rotate_left 1; exact rvA
    rfl
  · have hz : c.reck 9 arg v = c.cmpA arg := by simp [CpuD.reck]
    rw [hz]
    clear hz
    go_enter Tryz.func229, Tryz.ntmps229
    go_upto_region 27 with (first | (go_at_call 242; (with_reducible refine (impl_SetA _ _ _).mono ?_); rintro e w1 ⟨rfl, hb⟩; (replace H := H.callB hb; clear hb)) | (go_at_call 245; (with_reducible refine (impl_Signs _ _).mono ?_); rintro e w1 ⟨rfl, rfl⟩) | (go_at_call 243; (with_reducible refine (impl_Add8 _ _ _ _).mono ?_); rintro e w1 ⟨rfl, rfl⟩) | (go_at_call 244; (with_reducible refine (impl_Sub8 _ _ _ _).mono ?_); rintro e w1 ⟨rfl, rfl⟩) | ((with_reducible refine g_box rfl ?_); refine eBa H ?_; clear H; intro g_ W_ H) | ((with_reducible refine g_load rfl ?_); first | refine eL1 H ?_ | refine eLa H ?_) | ((with_reducible refine g_store rfl ?_); (first | refine eSb H ?_ | refine eSa H ?_); clear H; intro W_ H))
    (with_reducible refine g_draw ?_)
    try simp only [Act.put, List.setIfInBounds_toArray, List.set_cons_succ, List.set_cons_zero]
    refine F_begin (ls := #[false, false, false, false, false, false, false, false, false, false, false, false]) (by kernel_rfl) rfl (by kernel_rfl) ?_
    have H_ := H.drew
    (clear H; have H := H_; clear H_)
    refine T_go [(0, 0, 144), (0, 1, 145), (0, 2, 146), (1, 3, 147), (0, 4, 148), (1, 5, 149), (0, 6, 150), (0, 7, 143), (0, 8, 151), (0, 9, 152), (0, 10, 12), (0, 11, 13)] ?_; (repeat (first | (refine' T_pure _ rfl rfl (by kernel_rfl) (Nat.le_of_ble_eq_true (by kernel_rfl)) (fun w2_ K_ hK_ => ?_) ?_; rotate_left 1; focus ((conv => (arg 4; arg 1; whnf)); (repeat (first | exact hK_ rfl | (go_big_may; (first | (go_at_call 244; (with_reducible refine (impl_Sub8 _ _ _ _).mono ?_); rintro e w1 ⟨rfl, rfl⟩) | ((with_reducible refine g_load rfl ?_); first | refine eL1 H ?_ | refine eLa H ?_) | ((with_reducible refine g_store rfl ?_); (first | refine eSb H ?_ | refine eSa H ?_); clear H; intro W_ H))) | go_step | go_guarded | go_upon | dsimp only)); done)) | (refine' T_read _ rfl rfl (by kernel_rfl) (Nat.le_of_ble_eq_true (by kernel_rfl)) (fun K_ hK_ => ?_) ?_; rotate_left 1; focus ((conv => (arg 4; arg 1; whnf)); (repeat (first | exact hK_ rfl | (go_big_may; (first | (go_at_call 244; (with_reducible refine (impl_Sub8 _ _ _ _).mono ?_); rintro e w1 ⟨rfl, rfl⟩) | ((with_reducible refine g_load rfl ?_); first | refine eL1 H ?_ | refine eLa H ?_) | ((with_reducible refine g_store rfl ?_); (first | refine eSb H ?_ | refine eSa H ?_); clear H; intro W_ H))) | go_step | go_guarded | go_upon | dsimp only)); done)))); refine T_end ?_
    refine F_done (by kernel_rfl) ?_
    go_wp2_with (first | (go_at_call 242; (with_reducible refine (impl_SetA _ _ _).mono ?_); rintro e w1 ⟨rfl, hb⟩; (replace H := H.callB hb; clear hb)) | (go_at_call 245; (with_reducible refine (impl_Signs _ _).mono ?_); rintro e w1 ⟨rfl, rfl⟩) | (go_at_call 243; (with_reducible refine (impl_Add8 _ _ _ _).mono ?_); rintro e w1 ⟨rfl, rfl⟩) | (go_at_call 244; (with_reducible refine (impl_Sub8 _ _ _ _).mono ?_); rintro e w1 ⟨rfl, rfl⟩) | ((with_reducible refine g_box rfl ?_); refine eBa H ?_; clear H; intro g_ W_ H) | ((with_reducible refine g_load rfl ?_); first | refine eL1 H ?_ | refine eLa H ?_) | ((with_reducible refine g_store rfl ?_); (first | refine eSb H ?_ | refine eSa H ?_); clear H; intro W_ H))
    have H_ := H.take (xs := [Ast.blk g _ _]) pksA
    refine' back1 Tryz.results229 ?_ rfl ⟨?_, H_⟩; rotate_left 1; exact rvA
    rfl
  · have hz : c.reck op arg v = c := by
      simp only [beq_eq_false_iff_ne] at h0 h1 h2 h3 h4 h5 h6 h7 h8 h9
      simp [CpuD.reck, h0, h1, h2, h3, h4, h5, h6, h7, h8, h9]
    have hi : isReck op = false := by simp only [isReck, h0, h1, h2, h3, h4, h5, h6, h7, h8, h9]; rfl
    rw [hz, hi]
    clear hz hi
    go_enter Tryz.func229, Tryz.ntmps229
    go_wp2_with (first | (go_at_call 242; (with_reducible refine (impl_SetA _ _ _).mono ?_); rintro e w1 ⟨rfl, hb⟩; (replace H := H.callB hb; clear hb)) | (go_at_call 245; (with_reducible refine (impl_Signs _ _).mono ?_); rintro e w1 ⟨rfl, rfl⟩) | (go_at_call 243; (with_reducible refine (impl_Add8 _ _ _ _).mono ?_); rintro e w1 ⟨rfl, rfl⟩) | (go_at_call 244; (with_reducible refine (impl_Sub8 _ _ _ _).mono ?_); rintro e w1 ⟨rfl, rfl⟩) | ((with_reducible refine g_box rfl ?_); refine eBa H ?_; clear H; intro g_ W_ H) | ((with_reducible refine g_load rfl ?_); first | refine eL1 H ?_ | refine eLa H ?_) | ((with_reducible refine g_store rfl ?_); (first | refine eSb H ?_ | refine eSa H ?_); clear H; intro W_ H))
    have H_ := H.take (xs := [Ast.blk g _ _]) pksA
    refine' back1 Tryz.results229 ?_ rfl ⟨?_, H_⟩; rotate_left 1; exact rvA
    rfl
set_option maxHeartbeats 16000000 in
theorem impl_turn_L (c : CpuD) (op arg : Int) (v0 v1 y0 y1 : Value) (zs : List Value) (g : Nat) (w : World) (H0 : Hol w [Ast.blk g (v0 :: v1 :: y0 :: y1 :: .int .i64 c.a :: .int .i64 c.x :: .int .i64 c.s :: .int .i64 c.pc :: .bool c.z :: .bool c.n :: .bool c.c :: .bool c.i :: zs) 49]) (hx0 : 0 ≤ c.x) (hx1 : c.x ≤ 255) : Calls Tryz.prog 230 #[.pointer (some ⟨g, 4, none⟩), .agg #[.int .i64 op, .int .i64 arg]] w fun e w' => e = .returned (.bool (isTurn op)) ∧ St w [g] w' [Ast.blk g (v0 :: v1 :: y0 :: y1 :: .int .i64 (c.turnR op).a :: .int .i64 (c.turnR op).x :: .int .i64 (c.turnR op).s :: .int .i64 (c.turnR op).pc :: .bool (c.turnR op).z :: .bool (c.turnR op).n :: .bool (c.turnR op).c :: .bool (c.turnR op).i :: zs) 49] := by
  have H := H0.st
  clear H0
  have hc : op = 10 ∨ op = 11 ∨ op = 12 ∨ op = 13 ∨ op = 25 ∨ op = 26 ∨ op = 27 ∨ op = 28 ∨ ((op == 10) = false ∧ (op == 11) = false ∧ (op == 12) = false ∧ (op == 13) = false ∧ (op == 25) = false ∧ (op == 26) = false ∧ (op == 27) = false ∧ (op == 28) = false) := by
    simp only [beq_eq_false_iff_ne]; omega
  rcases hc with rfl | rfl | rfl | rfl | rfl | rfl | rfl | rfl | ⟨h0, h1, h2, h3, h4, h5, h6, h7⟩
  · have hz : c.turnR 10 = c.setX c.a := by simp [CpuD.turnR]
    rw [hz]
    clear hz
    go_enter Tryz.func230, Tryz.ntmps230
    go_upto_region 4 with (first | (go_at_call 242; (with_reducible refine (impl_SetA _ _ _).mono ?_); rintro e w1 ⟨rfl, hb⟩; (replace H := H.callB hb; clear hb)) | (go_at_call 246; (with_reducible refine (impl_SetX _ _ _).mono ?_); rintro e w1 ⟨rfl, hb⟩; (replace H := H.callB hb; clear hb)) | ((with_reducible refine g_box rfl ?_); refine eBa H ?_; clear H; intro g_ W_ H) | ((with_reducible refine g_load rfl ?_); first | refine eL1 H ?_ | refine eLa H ?_) | ((with_reducible refine g_store rfl ?_); (first | refine eSb H ?_ | refine eSa H ?_); clear H; intro W_ H))
    (with_reducible refine g_draw ?_)
    try simp only [Act.put, List.setIfInBounds_toArray, List.set_cons_succ, List.set_cons_zero]
    refine F_begin (ls := #[false, false, false, false, false, false, false, false, false, false, false]) (by kernel_rfl) rfl (by kernel_rfl) ?_
    have H_ := H.drew
    (clear H; have H := H_; clear H_)
    refine T_go [(0, 0, 9), (0, 1, 10), (0, 2, 11), (1, 3, 12), (0, 4, 13), (0, 5, 14), (0, 6, 15), (1, 7, 16)] ?_; (repeat (first | refine T_pA ?_ | refine T_rA ?_)); refine T_end ?_
    refine F_eA (ls' := #[true, true, true, true, true, true, true, true, true, false, false]) (pend' := []) 8 ?_; intro K_ hK_; (conv => (arg 4; arg 1; whnf)); (repeat (first | refine hK_ _ _ rfl ?_ ?_ | (go_big_may; (go_at_call 246; (with_reducible refine (impl_SetX _ _ _).mono ?_); rintro e w1 ⟨rfl, hb⟩; (replace H := H.callB hb; clear hb))) | go_step | go_guarded | go_upon | dsimp only)); exact kept_nil
    refine T_go [(0, 9, 18)] ?_; (repeat (refine T_pA ?_)); refine T_end ?_
    refine F_eA (ls' := #[true, true, true, true, true, true, true, true, true, true, true]) (pend' := []) 10 ?_; intro K_ hK_; (conv => (arg 4; arg 1; whnf)); (repeat (first | refine hK_ _ _ rfl ?_ ?_ | (go_big_may; (first | ((with_reducible refine g_load rfl ?_); first | refine eL1 H ?_ | refine eLa H ?_) | ((with_reducible refine g_store rfl ?_); (first | refine eSb H ?_ | refine eSa H ?_); clear H; intro W_ H))) | go_step | go_guarded | go_upon | dsimp only)); exact kept_nil
    refine F_done (by kernel_rfl) ?_
    go_wp2_with (first | (go_at_call 242; (with_reducible refine (impl_SetA _ _ _).mono ?_); rintro e w1 ⟨rfl, hb⟩; (replace H := H.callB hb; clear hb)) | (go_at_call 246; (with_reducible refine (impl_SetX _ _ _).mono ?_); rintro e w1 ⟨rfl, hb⟩; (replace H := H.callB hb; clear hb)) | ((with_reducible refine g_box rfl ?_); refine eBa H ?_; clear H; intro g_ W_ H) | ((with_reducible refine g_load rfl ?_); first | refine eL1 H ?_ | refine eLa H ?_) | ((with_reducible refine g_store rfl ?_); (first | refine eSb H ?_ | refine eSa H ?_); clear H; intro W_ H))
    have H_ := H.take (xs := [Ast.blk g _ _]) pksA
    refine' back1 Tryz.results230 ?_ rfl ⟨?_, H_⟩; rotate_left 1; exact rvA
    rfl
  · have hz : c.turnR 11 = c.setA c.x := by simp [CpuD.turnR]
    rw [hz]
    clear hz
    go_enter Tryz.func230, Tryz.ntmps230
    go_upto_region 6 with (first | (go_at_call 242; (with_reducible refine (impl_SetA _ _ _).mono ?_); rintro e w1 ⟨rfl, hb⟩; (replace H := H.callB hb; clear hb)) | (go_at_call 246; (with_reducible refine (impl_SetX _ _ _).mono ?_); rintro e w1 ⟨rfl, hb⟩; (replace H := H.callB hb; clear hb)) | ((with_reducible refine g_box rfl ?_); refine eBa H ?_; clear H; intro g_ W_ H) | ((with_reducible refine g_load rfl ?_); first | refine eL1 H ?_ | refine eLa H ?_) | ((with_reducible refine g_store rfl ?_); (first | refine eSb H ?_ | refine eSa H ?_); clear H; intro W_ H))
    (with_reducible refine g_draw ?_)
    try simp only [Act.put, List.setIfInBounds_toArray, List.set_cons_succ, List.set_cons_zero]
    refine F_begin (ls := #[false, false, false, false, false, false, false, false, false, false, false]) (by kernel_rfl) rfl (by kernel_rfl) ?_
    have H_ := H.drew
    (clear H; have H := H_; clear H_)
    refine T_go [(0, 0, 21), (0, 1, 22), (0, 2, 23), (1, 3, 24), (0, 4, 25), (0, 5, 26), (0, 6, 27), (1, 7, 28)] ?_; (repeat (first | refine T_pA ?_ | refine T_rA ?_)); refine T_end ?_
    refine F_eA (ls' := #[true, true, true, true, true, true, true, true, true, false, false]) (pend' := []) 8 ?_; intro K_ hK_; (conv => (arg 4; arg 1; whnf)); (repeat (first | refine hK_ _ _ rfl ?_ ?_ | (go_big_may; (go_at_call 242; (with_reducible refine (impl_SetA _ _ _).mono ?_); rintro e w1 ⟨rfl, hb⟩; (replace H := H.callB hb; clear hb))) | go_step | go_guarded | go_upon | dsimp only)); exact kept_nil
    refine T_go [(0, 9, 30)] ?_; (repeat (refine T_pA ?_)); refine T_end ?_
    refine F_eA (ls' := #[true, true, true, true, true, true, true, true, true, true, true]) (pend' := []) 10 ?_; intro K_ hK_; (conv => (arg 4; arg 1; whnf)); (repeat (first | refine hK_ _ _ rfl ?_ ?_ | (go_big_may; (first | ((with_reducible refine g_load rfl ?_); first | refine eL1 H ?_ | refine eLa H ?_) | ((with_reducible refine g_store rfl ?_); (first | refine eSb H ?_ | refine eSa H ?_); clear H; intro W_ H))) | go_step | go_guarded | go_upon | dsimp only)); exact kept_nil
    refine F_done (by kernel_rfl) ?_
    go_wp2_with (first | (go_at_call 242; (with_reducible refine (impl_SetA _ _ _).mono ?_); rintro e w1 ⟨rfl, hb⟩; (replace H := H.callB hb; clear hb)) | (go_at_call 246; (with_reducible refine (impl_SetX _ _ _).mono ?_); rintro e w1 ⟨rfl, hb⟩; (replace H := H.callB hb; clear hb)) | ((with_reducible refine g_box rfl ?_); refine eBa H ?_; clear H; intro g_ W_ H) | ((with_reducible refine g_load rfl ?_); first | refine eL1 H ?_ | refine eLa H ?_) | ((with_reducible refine g_store rfl ?_); (first | refine eSb H ?_ | refine eSa H ?_); clear H; intro W_ H))
    have H_ := H.take (xs := [Ast.blk g _ _]) pksA
    refine' back1 Tryz.results230 ?_ rfl ⟨?_, H_⟩; rotate_left 1; exact rvA
    rfl
  · have hz : c.turnR 12 = c.setX (c.x + 1) := by simp [CpuD.turnR]
    rw [hz]
    clear hz
    go_enter Tryz.func230, Tryz.ntmps230
    go_upto_region 8 with (first | (go_at_call 242; (with_reducible refine (impl_SetA _ _ _).mono ?_); rintro e w1 ⟨rfl, hb⟩; (replace H := H.callB hb; clear hb)) | (go_at_call 246; (with_reducible refine (impl_SetX _ _ _).mono ?_); rintro e w1 ⟨rfl, hb⟩; (replace H := H.callB hb; clear hb)) | ((with_reducible refine g_box rfl ?_); refine eBa H ?_; clear H; intro g_ W_ H) | ((with_reducible refine g_load rfl ?_); first | refine eL1 H ?_ | refine eLa H ?_) | ((with_reducible refine g_store rfl ?_); (first | refine eSb H ?_ | refine eSa H ?_); clear H; intro W_ H))
    (with_reducible refine g_draw ?_)
    try simp only [Act.put, List.setIfInBounds_toArray, List.set_cons_succ, List.set_cons_zero]
    refine F_begin (ls := #[false, false, false, false, false, false, false, false, false, false, false, false]) (by kernel_rfl) rfl (by kernel_rfl) ?_
    have H_ := H.drew
    (clear H; have H := H_; clear H_)
    refine T_go [(0, 0, 33), (0, 1, 34), (0, 2, 35), (1, 3, 36), (0, 4, 37), (0, 5, 38), (0, 6, 39), (1, 7, 40), (0, 8, 41)] ?_; (repeat (first | refine T_pA ?_ | refine T_rA ?_)); refine T_end ?_
    refine F_eA (ls' := #[true, true, true, true, true, true, true, true, true, true, false, false]) (pend' := []) 9 ?_; intro K_ hK_; (conv => (arg 4; arg 1; whnf)); (repeat (first | refine hK_ _ _ rfl ?_ ?_ | (go_big_may; (go_at_call 246; (with_reducible refine (impl_SetX _ _ _).mono ?_); rintro e w1 ⟨rfl, hb⟩; (replace H := H.callB hb; clear hb))) | go_step | go_guarded | go_upon | dsimp only)); exact kept_nil
    refine T_go [(0, 10, 43)] ?_; (repeat (refine T_pA ?_)); refine T_end ?_
    refine F_eA (ls' := #[true, true, true, true, true, true, true, true, true, true, true, true]) (pend' := []) 11 ?_; intro K_ hK_; (conv => (arg 4; arg 1; whnf)); (repeat (first | refine hK_ _ _ rfl ?_ ?_ | (go_big_may; (first | ((with_reducible refine g_load rfl ?_); first | refine eL1 H ?_ | refine eLa H ?_) | ((with_reducible refine g_store rfl ?_); (first | refine eSb H ?_ | refine eSa H ?_); clear H; intro W_ H))) | go_step | go_guarded | go_upon | dsimp only)); exact kept_nil
    refine F_done (by kernel_rfl) ?_
    go_wp2_with (first | (go_at_call 242; (with_reducible refine (impl_SetA _ _ _).mono ?_); rintro e w1 ⟨rfl, hb⟩; (replace H := H.callB hb; clear hb)) | (go_at_call 246; (with_reducible refine (impl_SetX _ _ _).mono ?_); rintro e w1 ⟨rfl, hb⟩; (replace H := H.callB hb; clear hb)) | ((with_reducible refine g_box rfl ?_); refine eBa H ?_; clear H; intro g_ W_ H) | ((with_reducible refine g_load rfl ?_); first | refine eL1 H ?_ | refine eLa H ?_) | ((with_reducible refine g_store rfl ?_); (first | refine eSb H ?_ | refine eSa H ?_); clear H; intro W_ H))
    have H_ := H.take (xs := [Ast.blk g _ _]) pksA
    refine' back1 Tryz.results230 ?_ rfl ⟨?_, H_⟩; rotate_left 1; exact rvA
    rfl
  · have hz : c.turnR 13 = c.setX (c.x - 1) := by simp [CpuD.turnR]
    rw [hz]
    clear hz
    go_enter Tryz.func230, Tryz.ntmps230
    go_upto_region 10 with (first | (go_at_call 242; (with_reducible refine (impl_SetA _ _ _).mono ?_); rintro e w1 ⟨rfl, hb⟩; (replace H := H.callB hb; clear hb)) | (go_at_call 246; (with_reducible refine (impl_SetX _ _ _).mono ?_); rintro e w1 ⟨rfl, hb⟩; (replace H := H.callB hb; clear hb)) | ((with_reducible refine g_box rfl ?_); refine eBa H ?_; clear H; intro g_ W_ H) | ((with_reducible refine g_load rfl ?_); first | refine eL1 H ?_ | refine eLa H ?_) | ((with_reducible refine g_store rfl ?_); (first | refine eSb H ?_ | refine eSa H ?_); clear H; intro W_ H))
    (with_reducible refine g_draw ?_)
    try simp only [Act.put, List.setIfInBounds_toArray, List.set_cons_succ, List.set_cons_zero]
    refine F_begin (ls := #[false, false, false, false, false, false, false, false, false, false, false, false]) (by kernel_rfl) rfl (by kernel_rfl) ?_
    have H_ := H.drew
    (clear H; have H := H_; clear H_)
    refine T_go [(0, 0, 46), (0, 1, 47), (0, 2, 48), (1, 3, 49), (0, 4, 50), (0, 5, 51), (0, 6, 52), (1, 7, 53), (0, 8, 54)] ?_; (repeat (first | refine T_pA ?_ | refine T_rA ?_)); refine T_end ?_
    refine F_eA (ls' := #[true, true, true, true, true, true, true, true, true, true, false, false]) (pend' := []) 9 ?_; intro K_ hK_; (conv => (arg 4; arg 1; whnf)); (repeat (first | refine hK_ _ _ rfl ?_ ?_ | (go_big_may; (go_at_call 246; (with_reducible refine (impl_SetX _ _ _).mono ?_); rintro e w1 ⟨rfl, hb⟩; (replace H := H.callB hb; clear hb))) | go_step | go_guarded | go_upon | dsimp only)); exact kept_nil
    refine T_go [(0, 10, 56)] ?_; (repeat (refine T_pA ?_)); refine T_end ?_
    refine F_eA (ls' := #[true, true, true, true, true, true, true, true, true, true, true, true]) (pend' := []) 11 ?_; intro K_ hK_; (conv => (arg 4; arg 1; whnf)); (repeat (first | refine hK_ _ _ rfl ?_ ?_ | (go_big_may; (first | ((with_reducible refine g_load rfl ?_); first | refine eL1 H ?_ | refine eLa H ?_) | ((with_reducible refine g_store rfl ?_); (first | refine eSb H ?_ | refine eSa H ?_); clear H; intro W_ H))) | go_step | go_guarded | go_upon | dsimp only)); exact kept_nil
    refine F_done (by kernel_rfl) ?_
    go_wp2_with (first | (go_at_call 242; (with_reducible refine (impl_SetA _ _ _).mono ?_); rintro e w1 ⟨rfl, hb⟩; (replace H := H.callB hb; clear hb)) | (go_at_call 246; (with_reducible refine (impl_SetX _ _ _).mono ?_); rintro e w1 ⟨rfl, hb⟩; (replace H := H.callB hb; clear hb)) | ((with_reducible refine g_box rfl ?_); refine eBa H ?_; clear H; intro g_ W_ H) | ((with_reducible refine g_load rfl ?_); first | refine eL1 H ?_ | refine eLa H ?_) | ((with_reducible refine g_store rfl ?_); (first | refine eSb H ?_ | refine eSa H ?_); clear H; intro W_ H))
    have H_ := H.take (xs := [Ast.blk g _ _]) pksA
    refine' back1 Tryz.results230 ?_ rfl ⟨?_, H_⟩; rotate_left 1; exact rvA
    rfl
  · have hz : c.turnR 25 = c.setI true := by simp [CpuD.turnR]
    rw [hz]
    clear hz
    go_enter Tryz.func230, Tryz.ntmps230
    go_wp2_with (first | (go_at_call 242; (with_reducible refine (impl_SetA _ _ _).mono ?_); rintro e w1 ⟨rfl, hb⟩; (replace H := H.callB hb; clear hb)) | (go_at_call 246; (with_reducible refine (impl_SetX _ _ _).mono ?_); rintro e w1 ⟨rfl, hb⟩; (replace H := H.callB hb; clear hb)) | ((with_reducible refine g_box rfl ?_); refine eBa H ?_; clear H; intro g_ W_ H) | ((with_reducible refine g_load rfl ?_); first | refine eL1 H ?_ | refine eLa H ?_) | ((with_reducible refine g_store rfl ?_); (first | refine eSb H ?_ | refine eSa H ?_); clear H; intro W_ H))
    have H_ := H.take (xs := [Ast.blk g _ _]) pksA
    refine' back1 Tryz.results230 ?_ rfl ⟨?_, H_⟩; rotate_left 1; exact rvA
    rfl
  · have hz : c.turnR 26 = c.setI false := by simp [CpuD.turnR]
    rw [hz]
    clear hz
    go_enter Tryz.func230, Tryz.ntmps230
    go_wp2_with (first | (go_at_call 242; (with_reducible refine (impl_SetA _ _ _).mono ?_); rintro e w1 ⟨rfl, hb⟩; (replace H := H.callB hb; clear hb)) | (go_at_call 246; (with_reducible refine (impl_SetX _ _ _).mono ?_); rintro e w1 ⟨rfl, hb⟩; (replace H := H.callB hb; clear hb)) | ((with_reducible refine g_box rfl ?_); refine eBa H ?_; clear H; intro g_ W_ H) | ((with_reducible refine g_load rfl ?_); first | refine eL1 H ?_ | refine eLa H ?_) | ((with_reducible refine g_store rfl ?_); (first | refine eSb H ?_ | refine eSa H ?_); clear H; intro W_ H))
    have H_ := H.take (xs := [Ast.blk g _ _]) pksA
    refine' back1 Tryz.results230 ?_ rfl ⟨?_, H_⟩; rotate_left 1; exact rvA
    rfl
  · have hz : c.turnR 27 = c.setC true := by simp [CpuD.turnR]
    rw [hz]
    clear hz
    go_enter Tryz.func230, Tryz.ntmps230
    go_wp2_with (first | (go_at_call 242; (with_reducible refine (impl_SetA _ _ _).mono ?_); rintro e w1 ⟨rfl, hb⟩; (replace H := H.callB hb; clear hb)) | (go_at_call 246; (with_reducible refine (impl_SetX _ _ _).mono ?_); rintro e w1 ⟨rfl, hb⟩; (replace H := H.callB hb; clear hb)) | ((with_reducible refine g_box rfl ?_); refine eBa H ?_; clear H; intro g_ W_ H) | ((with_reducible refine g_load rfl ?_); first | refine eL1 H ?_ | refine eLa H ?_) | ((with_reducible refine g_store rfl ?_); (first | refine eSb H ?_ | refine eSa H ?_); clear H; intro W_ H))
    have H_ := H.take (xs := [Ast.blk g _ _]) pksA
    refine' back1 Tryz.results230 ?_ rfl ⟨?_, H_⟩; rotate_left 1; exact rvA
    rfl
  · have hz : c.turnR 28 = c.setC false := by simp [CpuD.turnR]
    rw [hz]
    clear hz
    go_enter Tryz.func230, Tryz.ntmps230
    go_wp2_with (first | (go_at_call 242; (with_reducible refine (impl_SetA _ _ _).mono ?_); rintro e w1 ⟨rfl, hb⟩; (replace H := H.callB hb; clear hb)) | (go_at_call 246; (with_reducible refine (impl_SetX _ _ _).mono ?_); rintro e w1 ⟨rfl, hb⟩; (replace H := H.callB hb; clear hb)) | ((with_reducible refine g_box rfl ?_); refine eBa H ?_; clear H; intro g_ W_ H) | ((with_reducible refine g_load rfl ?_); first | refine eL1 H ?_ | refine eLa H ?_) | ((with_reducible refine g_store rfl ?_); (first | refine eSb H ?_ | refine eSa H ?_); clear H; intro W_ H))
    have H_ := H.take (xs := [Ast.blk g _ _]) pksA
    refine' back1 Tryz.results230 ?_ rfl ⟨?_, H_⟩; rotate_left 1; exact rvA
    rfl
  · have hz : c.turnR op = c := by
      simp only [beq_eq_false_iff_ne] at h0 h1 h2 h3 h4 h5 h6 h7
      simp [CpuD.turnR, h0, h1, h2, h3, h4, h5, h6, h7]
    have hi : isTurn op = false := by simp only [isTurn, h0, h1, h2, h3, h4, h5, h6, h7]; rfl
    rw [hz, hi]
    clear hz hi
    go_enter Tryz.func230, Tryz.ntmps230
    go_wp2_with (first | (go_at_call 242; (with_reducible refine (impl_SetA _ _ _).mono ?_); rintro e w1 ⟨rfl, hb⟩; (replace H := H.callB hb; clear hb)) | (go_at_call 246; (with_reducible refine (impl_SetX _ _ _).mono ?_); rintro e w1 ⟨rfl, hb⟩; (replace H := H.callB hb; clear hb)) | ((with_reducible refine g_box rfl ?_); refine eBa H ?_; clear H; intro g_ W_ H) | ((with_reducible refine g_load rfl ?_); first | refine eL1 H ?_ | refine eLa H ?_) | ((with_reducible refine g_store rfl ?_); (first | refine eSb H ?_ | refine eSa H ?_); clear H; intro W_ H))
    have H_ := H.take (xs := [Ast.blk g _ _]) pksA
    refine' back1 Tryz.results230 ?_ rfl ⟨?_, H_⟩; rotate_left 1; exact rvA
    rfl
end Go.Proofs.YtjgggmcnbdjdjaaGreat.C

