/- The processor's small functions. (written by ygen2.py) -/
import Derived.Test.YtjgggmcnbdjdjaaGreatY12
import Derived.Test.YtjgggmcnbdjdjaaGreatY4
namespace Go.Proofs.YtjgggmcnbdjdjaaGreat.C
open Go.RowKit Go.Proofs.YtjgggmcnbdjdjaaGreat.K Go.Proofs.YtjgggmcnbdjdjaaGreat.B
attribute [local go_sem] max2_int min2_int max_two min_two i64_and255 i64_and65535 i64_and1
set_option maxRecDepth 20000
set_option linter.unusedVariables false
set_option linter.unusedSimpArgs false
set_option maxRecDepth 20000
def CpuD.setA (c : CpuD) (v : Int) : CpuD := ⟨v % 256, c.x, c.s, c.pc, v % 256 == 0, decide (127 < v % 256), c.c, c.i⟩
def CpuD.setX (c : CpuD) (v : Int) : CpuD := ⟨c.a, v % 256, c.s, c.pc, v % 256 == 0, decide (127 < v % 256), c.c, c.i⟩
def CpuD.setC (c : CpuD) (k : Bool) : CpuD := ⟨c.a, c.x, c.s, c.pc, c.z, c.n, k, c.i⟩
def CpuD.setI (c : CpuD) (k : Bool) : CpuD := ⟨c.a, c.x, c.s, c.pc, c.z, c.n, c.c, k⟩
def CpuD.setPc (c : CpuD) (v : Int) : CpuD := ⟨c.a, c.x, c.s, v, c.z, c.n, c.c, c.i⟩
def sumB (a b : Int) (k : Bool) : Int := a % 256 + b % 256 + if k = true then 1 else 0
def restB (a b : Int) (k : Bool) : Int := a % 256 - b % 256 - if k = true then 0 else 1
def CpuD.withF (c : CpuD) (f : Int) : CpuD := ⟨c.a, c.x, c.s, c.pc, bits BinOp.and IntKind.i64 f 2 != 0, bits BinOp.and IntKind.i64 f 128 != 0, f % 2 != 0, bits BinOp.and IntKind.i64 f 4 != 0⟩
def CpuD.flags (c : CpuD) : Int := (if c.c = true then 1 else 0) + (if c.z = true then 2 else 0) + (if c.i = true then 4 else 0) + (if c.n = true then 128 else 0)
theorem impl_Signs (v : Int) (w : World) : Calls Tryz.prog 245 #[.int .i64 v] w fun e w' => e = .returned (.tuple #[.bool (v % 256 == 0), .bool (decide (127 < v % 256))]) ∧ w = w' := by
  go_enter Tryz.func245, Tryz.ntmps245
  go_wp2_with (go_at_call 192; (with_reducible refine (impl_Byte _ _).mono ?_); rintro e w1 ⟨rfl, rfl⟩)
  refine' back2 Tryz.results245 ?_ ?_ rfl ⟨?_, rfl⟩; rotate_left 2; exact rvA; exact rvA
  rfl
theorem impl_SetA (c : CpuD) (v : Int) (w : World) : Calls Tryz.prog 242 #[.agg #[.int .i64 c.a, .int .i64 c.x, .int .i64 c.s, .int .i64 c.pc, .bool c.z, .bool c.n, .bool c.c, .bool c.i], .int .i64 v] w fun e w' => e = .returned (.agg #[.int .i64 (c.setA v).a, .int .i64 (c.setA v).x, .int .i64 (c.setA v).s, .int .i64 (c.setA v).pc, .bool (c.setA v).z, .bool (c.setA v).n, .bool (c.setA v).c, .bool (c.setA v).i]) ∧ Below w.heap.size w w' := by
  have H := St.nil w []
  go_enter Tryz.func242, Tryz.ntmps242
  go_wp2_with (first | (go_at_call 192; (with_reducible refine (impl_Byte _ _).mono ?_); rintro e w1 ⟨rfl, rfl⟩) | (go_at_call 245; (with_reducible refine (impl_Signs _ _).mono ?_); rintro e w1 ⟨rfl, rfl⟩) | ((with_reducible refine g_box rfl ?_); refine eBa H ?_; clear H; intro g_ W_ H) | ((with_reducible refine g_alloc rfl ?_); refine eNw H ?_; clear H; intro g_ W_ H) | ((with_reducible refine g_load rfl ?_); refine eLa H ?_) | ((with_reducible refine g_store rfl ?_); (first | refine eSi H ?_ | refine eSb H ?_ | refine eSa H ?_); clear H; intro W_ H))
  refine' back1 Tryz.results242 ?_ rfl ⟨?_, H.below⟩; rotate_left 1; exact rvA
  rfl
theorem impl_SetX (c : CpuD) (v : Int) (w : World) : Calls Tryz.prog 246 #[.agg #[.int .i64 c.a, .int .i64 c.x, .int .i64 c.s, .int .i64 c.pc, .bool c.z, .bool c.n, .bool c.c, .bool c.i], .int .i64 v] w fun e w' => e = .returned (.agg #[.int .i64 (c.setX v).a, .int .i64 (c.setX v).x, .int .i64 (c.setX v).s, .int .i64 (c.setX v).pc, .bool (c.setX v).z, .bool (c.setX v).n, .bool (c.setX v).c, .bool (c.setX v).i]) ∧ Below w.heap.size w w' := by
  have H := St.nil w []
  go_enter Tryz.func246, Tryz.ntmps246
  go_wp2_with (first | (go_at_call 192; (with_reducible refine (impl_Byte _ _).mono ?_); rintro e w1 ⟨rfl, rfl⟩) | (go_at_call 245; (with_reducible refine (impl_Signs _ _).mono ?_); rintro e w1 ⟨rfl, rfl⟩) | ((with_reducible refine g_box rfl ?_); refine eBa H ?_; clear H; intro g_ W_ H) | ((with_reducible refine g_alloc rfl ?_); refine eNw H ?_; clear H; intro g_ W_ H) | ((with_reducible refine g_load rfl ?_); refine eLa H ?_) | ((with_reducible refine g_store rfl ?_); (first | refine eSi H ?_ | refine eSb H ?_ | refine eSa H ?_); clear H; intro W_ H))
  refine' back1 Tryz.results246 ?_ rfl ⟨?_, H.below⟩; rotate_left 1; exact rvA
  rfl
theorem impl_Add8 (a b : Int) (k : Bool) (w : World) : Calls Tryz.prog 243 #[.int .i64 a, .int .i64 b, .bool k] w fun e w' => e = .returned (.tuple #[.int .i64 (sumB a b k % 256), .bool (decide (255 < sumB a b k))]) ∧ w = w' := by
  have h1 : 0 ≤ a % 256 ∧ a % 256 ≤ 255 := by omega
  have h2 : 0 ≤ b % 256 ∧ b % 256 ≤ 255 := by omega
  unfold sumB
  generalize hA : a % 256 = a1 at *
  generalize hB : b % 256 = b1 at *
  obtain ⟨h3, h4⟩ := h1
  obtain ⟨h5, h6⟩ := h2
  have HA := Lib.hid hA
  have HB := Lib.hid hB
  clear hA hB
  cases k
  all_goals
    go_enter Tryz.func243, Tryz.ntmps243
    go_wp2_with (first | (go_at_call 192; (with_reducible refine (impl_Byte a _).mono ?_); rintro e w1 ⟨rfl, rfl⟩; rw [HA.out]) | (go_at_call 192; (with_reducible refine (impl_Byte b _).mono ?_); rintro e w1 ⟨rfl, rfl⟩; rw [HB.out]) | (go_at_call 192; (with_reducible refine (impl_Byte _ _).mono ?_); rintro e w1 ⟨rfl, rfl⟩) | (go_at_call 188; (with_reducible refine (impl_flag _ _).mono ?_); rintro e w1 ⟨rfl, rfl⟩))
    refine' back2 Tryz.results243 ?_ ?_ rfl ⟨?_, rfl⟩; rotate_left 2; exact rvA; exact rvA
    simp
theorem impl_Sub8 (a b : Int) (k : Bool) (w : World) : Calls Tryz.prog 244 #[.int .i64 a, .int .i64 b, .bool k] w fun e w' => e = .returned (.tuple #[.int .i64 (restB a b k % 256), .bool (decide (0 ≤ restB a b k))]) ∧ w = w' := by
  have h1 : 0 ≤ a % 256 ∧ a % 256 ≤ 255 := by omega
  have h2 : 0 ≤ b % 256 ∧ b % 256 ≤ 255 := by omega
  unfold restB
  generalize hA : a % 256 = a1 at *
  generalize hB : b % 256 = b1 at *
  obtain ⟨h3, h4⟩ := h1
  obtain ⟨h5, h6⟩ := h2
  have HA := Lib.hid hA
  have HB := Lib.hid hB
  clear hA hB
  cases k
  all_goals
    go_enter Tryz.func244, Tryz.ntmps244
    go_wp2_with (first | (go_at_call 192; (with_reducible refine (impl_Byte a _).mono ?_); rintro e w1 ⟨rfl, rfl⟩; rw [HA.out]) | (go_at_call 192; (with_reducible refine (impl_Byte b _).mono ?_); rintro e w1 ⟨rfl, rfl⟩; rw [HB.out]) | (go_at_call 192; (with_reducible refine (impl_Byte _ _).mono ?_); rintro e w1 ⟨rfl, rfl⟩) | (go_at_call 188; (with_reducible refine (impl_flag _ _).mono ?_); rintro e w1 ⟨rfl, rfl⟩))
    refine' back2 Tryz.results244 ?_ ?_ rfl ⟨?_, rfl⟩; rotate_left 2; exact rvA; exact rvA
    first | (simp; done) | (simp; omega)
theorem impl_WithFlags (c : CpuD) (f : Int) (w : World) : Calls Tryz.prog 249 #[.agg #[.int .i64 c.a, .int .i64 c.x, .int .i64 c.s, .int .i64 c.pc, .bool c.z, .bool c.n, .bool c.c, .bool c.i], .int .i64 f] w fun e w' => e = .returned (.agg #[.int .i64 (c.withF f).a, .int .i64 (c.withF f).x, .int .i64 (c.withF f).s, .int .i64 (c.withF f).pc, .bool (c.withF f).z, .bool (c.withF f).n, .bool (c.withF f).c, .bool (c.withF f).i]) ∧ Below w.heap.size w w' := by
  have H := St.nil w []
  go_enter Tryz.func249, Tryz.ntmps249
  go_wp2_with (first | ((with_reducible refine g_box rfl ?_); refine eBa H ?_; clear H; intro g_ W_ H) | ((with_reducible refine g_alloc rfl ?_); refine eNw H ?_; clear H; intro g_ W_ H) | ((with_reducible refine g_load rfl ?_); refine eLa H ?_) | ((with_reducible refine g_store rfl ?_); (first | refine eSb H ?_ | refine eSa H ?_); clear H; intro W_ H))
  refine' back1 Tryz.results249 ?_ rfl ⟨?_, H.below⟩; rotate_left 1; exact rvA
  rfl
set_option maxHeartbeats 8000000 in
theorem impl_Flags (c : CpuD) (w : World) : Calls Tryz.prog 228 #[.agg #[.int .i64 c.a, .int .i64 c.x, .int .i64 c.s, .int .i64 c.pc, .bool c.z, .bool c.n, .bool c.c, .bool c.i]] w fun e w' => e = .returned (.int .i64 c.flags) ∧ Below w.heap.size w w' := by
  obtain ⟨a, x, s, pc, z, n, c, i⟩ := c
  have H := St.nil w []
  cases z <;> cases n <;> cases c <;> cases i
  all_goals
    go_enter Tryz.func228, Tryz.ntmps228
    go_upto_region 1 with (first | ((with_reducible refine g_box rfl ?_); refine eBa H ?_; clear H; intro g_ W_ H) | ((with_reducible refine g_load rfl ?_); refine eL1 H ?_))
    (with_reducible refine g_draw ?_)
    try simp only [Act.put, List.setIfInBounds_toArray, List.set_cons_succ, List.set_cons_zero]
    refine F_begin (ls := #[false, false, false, false, false, false, false, false, false, false, false, false, false, false, false, false, false, false, false, false]) (by kernel_rfl) rfl (by kernel_rfl) ?_
    have H_ := H.drew
    (clear H; have H := H_; clear H_)
    refine T_go [(0, 0, 3), (1, 1, 4), (0, 2, 5), (0, 3, 6), (0, 4, 7), (1, 5, 8), (0, 6, 9), (0, 7, 10), (0, 8, 11), (0, 9, 12), (1, 10, 13), (0, 11, 14), (0, 12, 15), (0, 13, 16), (0, 14, 17), (1, 15, 18), (0, 16, 19), (0, 17, 20), (0, 18, 21), (0, 19, 2)] ?_; (repeat (first | (refine' T_pure _ rfl rfl (by kernel_rfl) (Nat.le_of_ble_eq_true (by kernel_rfl)) (fun w2_ K_ hK_ => ?_) ?_; rotate_left 1; focus ((conv => (arg 4; arg 1; whnf)); (repeat (first | exact hK_ rfl | (go_big_may; (first | (go_at_call 188; (with_reducible refine (impl_flag _ _).mono ?_); rintro e w1 ⟨rfl, rfl⟩) | ((with_reducible refine g_load rfl ?_); refine eL1 H ?_))) | go_step | go_guarded | go_upon | dsimp only)); done)) | (refine' T_read _ rfl rfl (by kernel_rfl) (Nat.le_of_ble_eq_true (by kernel_rfl)) (fun K_ hK_ => ?_) ?_; rotate_left 1; focus ((conv => (arg 4; arg 1; whnf)); (repeat (first | exact hK_ rfl | (go_big_may; (first | (go_at_call 188; (with_reducible refine (impl_flag _ _).mono ?_); rintro e w1 ⟨rfl, rfl⟩) | ((with_reducible refine g_load rfl ?_); refine eL1 H ?_))) | go_step | go_guarded | go_upon | dsimp only)); done)))); refine T_end ?_
    refine F_done (by kernel_rfl) ?_
    go_wp2_with (first | ((with_reducible refine g_box rfl ?_); refine eBa H ?_; clear H; intro g_ W_ H) | ((with_reducible refine g_load rfl ?_); refine eL1 H ?_))
    refine' back1 Tryz.results228 ?_ rfl ⟨?_, H.below⟩; rotate_left 1; exact rvA
    rfl
theorem spec_Signs (v : Int) (w : World) : Calls Tryz.prog 240 #[.int .i64 v] w fun e w' => e = .returned (.tuple #[.bool (v % 256 == 0), .bool (decide (127 < v % 256))]) ∧ w = w' := by
  go_enter Tryz.func240, Tryz.ntmps240
  go_wp2_with (go_at_call 191; (with_reducible refine (spec_Byte _ _).mono ?_); rintro e w1 ⟨rfl, rfl⟩)
  refine' back2 Tryz.results240 ?_ ?_ rfl ⟨?_, rfl⟩; rotate_left 2; exact rvA; exact rvA
  rfl
theorem spec_SetA (c : CpuD) (v : Int) (w : World) : Calls Tryz.prog 223 #[.agg #[.int .i64 c.a, .int .i64 c.x, .int .i64 c.s, .int .i64 c.pc, .bool c.z, .bool c.n, .bool c.c, .bool c.i], .int .i64 v] w fun e w' => e = .returned (.agg #[.int .i64 (c.setA v).a, .int .i64 (c.setA v).x, .int .i64 (c.setA v).s, .int .i64 (c.setA v).pc, .bool (c.setA v).z, .bool (c.setA v).n, .bool (c.setA v).c, .bool (c.setA v).i]) ∧ Below w.heap.size w w' := by
  have H := St.nil w []
  go_enter Tryz.func223, Tryz.ntmps223
  go_wp2_with (first | (go_at_call 191; (with_reducible refine (spec_Byte _ _).mono ?_); rintro e w1 ⟨rfl, rfl⟩) | (go_at_call 240; (with_reducible refine (spec_Signs _ _).mono ?_); rintro e w1 ⟨rfl, rfl⟩) | ((with_reducible refine g_box rfl ?_); refine eBa H ?_; clear H; intro g_ W_ H) | ((with_reducible refine g_alloc rfl ?_); refine eNw H ?_; clear H; intro g_ W_ H) | ((with_reducible refine g_load rfl ?_); refine eLa H ?_) | ((with_reducible refine g_store rfl ?_); (first | refine eSi H ?_ | refine eSb H ?_ | refine eSa H ?_); clear H; intro W_ H))
  refine' back1 Tryz.results223 ?_ rfl ⟨?_, H.below⟩; rotate_left 1; exact rvA
  rfl
theorem spec_SetX (c : CpuD) (v : Int) (w : World) : Calls Tryz.prog 241 #[.agg #[.int .i64 c.a, .int .i64 c.x, .int .i64 c.s, .int .i64 c.pc, .bool c.z, .bool c.n, .bool c.c, .bool c.i], .int .i64 v] w fun e w' => e = .returned (.agg #[.int .i64 (c.setX v).a, .int .i64 (c.setX v).x, .int .i64 (c.setX v).s, .int .i64 (c.setX v).pc, .bool (c.setX v).z, .bool (c.setX v).n, .bool (c.setX v).c, .bool (c.setX v).i]) ∧ Below w.heap.size w w' := by
  have H := St.nil w []
  go_enter Tryz.func241, Tryz.ntmps241
  go_wp2_with (first | (go_at_call 191; (with_reducible refine (spec_Byte _ _).mono ?_); rintro e w1 ⟨rfl, rfl⟩) | (go_at_call 240; (with_reducible refine (spec_Signs _ _).mono ?_); rintro e w1 ⟨rfl, rfl⟩) | ((with_reducible refine g_box rfl ?_); refine eBa H ?_; clear H; intro g_ W_ H) | ((with_reducible refine g_alloc rfl ?_); refine eNw H ?_; clear H; intro g_ W_ H) | ((with_reducible refine g_load rfl ?_); refine eLa H ?_) | ((with_reducible refine g_store rfl ?_); (first | refine eSi H ?_ | refine eSb H ?_ | refine eSa H ?_); clear H; intro W_ H))
  refine' back1 Tryz.results241 ?_ rfl ⟨?_, H.below⟩; rotate_left 1; exact rvA
  rfl
theorem spec_Add8 (a b : Int) (k : Bool) (w : World) : Calls Tryz.prog 251 #[.int .i64 a, .int .i64 b, .bool k] w fun e w' => e = .returned (.tuple #[.int .i64 (sumB a b k % 256), .bool (decide (255 < sumB a b k))]) ∧ w = w' := by
  have h1 : 0 ≤ a % 256 ∧ a % 256 ≤ 255 := by omega
  have h2 : 0 ≤ b % 256 ∧ b % 256 ≤ 255 := by omega
  unfold sumB
  generalize hA : a % 256 = a1 at *
  generalize hB : b % 256 = b1 at *
  obtain ⟨h3, h4⟩ := h1
  obtain ⟨h5, h6⟩ := h2
  have HA := Lib.hid hA
  have HB := Lib.hid hB
  clear hA hB
  cases k
  all_goals
    go_enter Tryz.func251, Tryz.ntmps251
    go_wp2_with (first | (go_at_call 191; (with_reducible refine (spec_Byte a _).mono ?_); rintro e w1 ⟨rfl, rfl⟩; rw [HA.out]) | (go_at_call 191; (with_reducible refine (spec_Byte b _).mono ?_); rintro e w1 ⟨rfl, rfl⟩; rw [HB.out]) | (go_at_call 191; (with_reducible refine (spec_Byte _ _).mono ?_); rintro e w1 ⟨rfl, rfl⟩) | (go_at_call 181; (with_reducible refine (spec_l1Bit _ _).mono ?_); rintro e w1 ⟨rfl, rfl⟩))
    refine' back2 Tryz.results251 ?_ ?_ rfl ⟨?_, rfl⟩; rotate_left 2; exact rvA; exact rvA
    simp
theorem spec_Sub8 (a b : Int) (k : Bool) (w : World) : Calls Tryz.prog 239 #[.int .i64 a, .int .i64 b, .bool k] w fun e w' => e = .returned (.tuple #[.int .i64 (restB a b k % 256), .bool (decide (0 ≤ restB a b k))]) ∧ w = w' := by
  have h1 : 0 ≤ a % 256 ∧ a % 256 ≤ 255 := by omega
  have h2 : 0 ≤ b % 256 ∧ b % 256 ≤ 255 := by omega
  unfold restB
  generalize hA : a % 256 = a1 at *
  generalize hB : b % 256 = b1 at *
  obtain ⟨h3, h4⟩ := h1
  obtain ⟨h5, h6⟩ := h2
  have HA := Lib.hid hA
  have HB := Lib.hid hB
  clear hA hB
  cases k
  all_goals
    go_enter Tryz.func239, Tryz.ntmps239
    go_wp2_with (first | (go_at_call 191; (with_reducible refine (spec_Byte a _).mono ?_); rintro e w1 ⟨rfl, rfl⟩; rw [HA.out]) | (go_at_call 191; (with_reducible refine (spec_Byte b _).mono ?_); rintro e w1 ⟨rfl, rfl⟩; rw [HB.out]) | (go_at_call 191; (with_reducible refine (spec_Byte _ _).mono ?_); rintro e w1 ⟨rfl, rfl⟩) | (go_at_call 181; (with_reducible refine (spec_l1Bit _ _).mono ?_); rintro e w1 ⟨rfl, rfl⟩))
    refine' back2 Tryz.results239 ?_ ?_ rfl ⟨?_, rfl⟩; rotate_left 2; exact rvA; exact rvA
    first | (simp; done) | (simp; omega)
theorem spec_WithFlags (c : CpuD) (f : Int) (w : World) : Calls Tryz.prog 224 #[.agg #[.int .i64 c.a, .int .i64 c.x, .int .i64 c.s, .int .i64 c.pc, .bool c.z, .bool c.n, .bool c.c, .bool c.i], .int .i64 f] w fun e w' => e = .returned (.agg #[.int .i64 (c.withF f).a, .int .i64 (c.withF f).x, .int .i64 (c.withF f).s, .int .i64 (c.withF f).pc, .bool (c.withF f).z, .bool (c.withF f).n, .bool (c.withF f).c, .bool (c.withF f).i]) ∧ Below w.heap.size w w' := by
  have H := St.nil w []
  go_enter Tryz.func224, Tryz.ntmps224
  go_wp2_with (first | ((with_reducible refine g_box rfl ?_); refine eBa H ?_; clear H; intro g_ W_ H) | ((with_reducible refine g_alloc rfl ?_); refine eNw H ?_; clear H; intro g_ W_ H) | ((with_reducible refine g_load rfl ?_); refine eLa H ?_) | ((with_reducible refine g_store rfl ?_); (first | refine eSb H ?_ | refine eSa H ?_); clear H; intro W_ H))
  refine' back1 Tryz.results224 ?_ rfl ⟨?_, H.below⟩; rotate_left 1; exact rvA
  rfl
set_option maxHeartbeats 8000000 in
theorem spec_Flags (c : CpuD) (w : World) : Calls Tryz.prog 218 #[.agg #[.int .i64 c.a, .int .i64 c.x, .int .i64 c.s, .int .i64 c.pc, .bool c.z, .bool c.n, .bool c.c, .bool c.i]] w fun e w' => e = .returned (.int .i64 c.flags) ∧ Below w.heap.size w w' := by
  obtain ⟨a, x, s, pc, z, n, c, i⟩ := c
  have H := St.nil w []
  cases z <;> cases n <;> cases c <;> cases i
  all_goals
    go_enter Tryz.func218, Tryz.ntmps218
    go_upto_region 1 with (first | ((with_reducible refine g_box rfl ?_); refine eBa H ?_; clear H; intro g_ W_ H) | ((with_reducible refine g_load rfl ?_); refine eL1 H ?_))
    (with_reducible refine g_draw ?_)
    try simp only [Act.put, List.setIfInBounds_toArray, List.set_cons_succ, List.set_cons_zero]
    refine F_begin (ls := #[false, false, false, false, false, false, false, false, false, false, false, false, false, false, false, false, false, false, false]) (by kernel_rfl) rfl (by kernel_rfl) ?_
    have H_ := H.drew
    (clear H; have H := H_; clear H_)
    refine T_go [(0, 0, 3), (1, 1, 4), (0, 2, 5), (0, 3, 6), (1, 4, 7), (0, 5, 8), (0, 6, 9), (0, 7, 10), (0, 8, 11), (1, 9, 12), (0, 10, 13), (0, 11, 14), (0, 12, 15), (0, 13, 16), (1, 14, 17), (0, 15, 18), (0, 16, 19), (0, 17, 20), (0, 18, 2)] ?_; (repeat (first | (refine' T_pure _ rfl rfl (by kernel_rfl) (Nat.le_of_ble_eq_true (by kernel_rfl)) (fun w2_ K_ hK_ => ?_) ?_; rotate_left 1; focus ((conv => (arg 4; arg 1; whnf)); (repeat (first | exact hK_ rfl | (go_big_may; (first | (go_at_call 181; (with_reducible refine (spec_l1Bit _ _).mono ?_); rintro e w1 ⟨rfl, rfl⟩) | ((with_reducible refine g_load rfl ?_); refine eL1 H ?_))) | go_step | go_guarded | go_upon | dsimp only)); done)) | (refine' T_read _ rfl rfl (by kernel_rfl) (Nat.le_of_ble_eq_true (by kernel_rfl)) (fun K_ hK_ => ?_) ?_; rotate_left 1; focus ((conv => (arg 4; arg 1; whnf)); (repeat (first | exact hK_ rfl | (go_big_may; (first | (go_at_call 181; (with_reducible refine (spec_l1Bit _ _).mono ?_); rintro e w1 ⟨rfl, rfl⟩) | ((with_reducible refine g_load rfl ?_); refine eL1 H ?_))) | go_step | go_guarded | go_upon | dsimp only)); done)))); refine T_end ?_
    refine F_done (by kernel_rfl) ?_
    go_wp2_with (first | ((with_reducible refine g_box rfl ?_); refine eBa H ?_; clear H; intro g_ W_ H) | ((with_reducible refine g_load rfl ?_); refine eL1 H ?_))
    refine' back1 Tryz.results218 ?_ rfl ⟨?_, H.below⟩; rotate_left 1; exact rvA
    rfl
end Go.Proofs.YtjgggmcnbdjdjaaGreat.C

/- What an op is, what it wants of memory, what a step of the machine in parts waits for: as data. -/
namespace Go.Proofs.YtjgggmcnbdjdjaaGreat.C
open Go.RowKit Go.Proofs.YtjgggmcnbdjdjaaGreat.K Go.Proofs.YtjgggmcnbdjdjaaGreat.B
set_option maxRecDepth 20000
set_option linter.unusedVariables false
set_option linter.unusedSimpArgs false
def opLen (op : Int) : Int := if op = 1 ∨ (4 ≤ op ∧ op ≤ 9) then 2 else if op = 2 ∨ op = 3 ∨ (14 ≤ op ∧ op ≤ 20) ∨ op = 29 then 3 else 1
def opCyc (op : Int) : Int := if op = 2 ∨ op = 3 ∨ op = 14 ∨ op = 23 ∨ op = 29 then 4 else if op = 15 then 5 else if (16 ≤ op ∧ op ≤ 19) ∨ op = 22 then 3 else if op = 20 ∨ op = 21 ∨ op = 24 then 6 else 2
def opAcc (op : Int) : Int := if op = 2 ∨ op = 14 ∨ op = 29 then 1 else if op = 3 ∨ op = 15 then 2 else 0
theorem opLen_cases (op : Int) : opLen op = 1 ∨ opLen op = 2 ∨ opLen op = 3 := by unfold opLen; split <;> (try split) <;> simp
theorem opCyc_in (op : Int) : 2 ≤ opCyc op ∧ opCyc op ≤ 6 := by unfold opCyc; (repeat' split) <;> omega
theorem opAcc_cases (op : Int) : opAcc op = 0 ∨ opAcc op = 1 ∨ opAcc op = 2 := by unfold opAcc; split <;> (try split) <;> simp
/-- The op that lies at a place. -/
def MemD.fetch (x : MemD) (m : ImageD) (pc : Int) : InstrD := ⟨x.peek m pc, if opLen (x.peek m pc) = 2 then x.peek m (pc + 1) else if opLen (x.peek m pc) = 3 then joinB (x.peek m (pc + 1)) (x.peek m (pc + 2)) else 0⟩
theorem MemD.fetch_in {x : MemD} {m : ImageD} (h : x.ok m = true) (pc : Int) : (0 ≤ (x.fetch m pc).op ∧ (x.fetch m pc).op ≤ 255) ∧ (0 ≤ (x.fetch m pc).arg ∧ (x.fetch m pc).arg ≤ 65535) := by
  refine ⟨MemD.peek_in h pc, ?_⟩
  show 0 ≤ (if opLen (x.peek m pc) = 2 then x.peek m (pc + 1) else if opLen (x.peek m pc) = 3 then joinB (x.peek m (pc + 1)) (x.peek m (pc + 2)) else 0) ∧ (if opLen (x.peek m pc) = 2 then x.peek m (pc + 1) else if opLen (x.peek m pc) = 3 then joinB (x.peek m (pc + 1)) (x.peek m (pc + 2)) else 0) ≤ 65535
  split
  · have := MemD.peek_in h (pc + 1); omega
  · split
    · exact joinB_in _ _
    · omega
/-- What an op wants of memory: whether it reads or writes, where, and what. -/
def accA (i : InstrD) (c : CpuD) : Int := if opAcc i.op = 0 then 0 else if i.op = 14 ∨ i.op = 15 then (i.arg + c.x) % 65536 else i.arg % 65536
def accV (i : InstrD) (c : CpuD) : Int := if opAcc i.op = 2 then c.a % 256 else 0
def SplitD.over (s : SplitD) (k : Int) : Int := if 20000 < s.t + k then 5 else 0
def SplitD.beat (s : SplitD) : Bool := cyc s.knownAt s.t 0 32
/-- The sound unit asks, and may. -/
def SplitD.asked (s : SplitD) : Bool := (if s.beat = true then s.sound.apu.i else s.known) && !s.cpu.i
end Go.Proofs.YtjgggmcnbdjdjaaGreat.C

/- What an op is: how long, how many cycles, what it wants of memory. (written by ygen2.py) -/
namespace Go.Proofs.YtjgggmcnbdjdjaaGreat.C
open Go.RowKit Go.Proofs.YtjgggmcnbdjdjaaGreat.K Go.Proofs.YtjgggmcnbdjdjaaGreat.B
attribute [local go_sem] max2_int min2_int max_two min_two i64_and255 i64_and65535 i64_and1
set_option maxRecDepth 20000
set_option linter.unusedVariables false
set_option linter.unusedSimpArgs false
theorem ints_at3 {w : World} {g c : Nat} {xs : List Int} (h : (intsA ⟨some ⟨g, 0, none⟩, c⟩ xs).p w) {k : Nat} (hk : k < xs.length) : w.cell? ⟨g, k, none⟩ = some (.int .i64 (rd xs k)) := by
  obtain ⟨ad', h2, h3⟩ := (InI.ofS h).2.2 (by omega)
  injection h2 with h2; subst h2
  have := h3 k hk
  rwa [Addr.add_mid, Nat.zero_add] at this
set_option maxHeartbeats 2000000 in
theorem impl_OpAccess (op : Int) (w : World) : Calls Tryz.prog 215 #[.int .i64 op] w fun e w' => e = .returned (.int .i64 (opAcc op)) ∧ w = w' := by
  have hc : op = 2 ∨ op = 14 ∨ op = 29 ∨ op = 3 ∨ op = 15 ∨ ((op == 2) = false ∧ (op == 14) = false ∧ (op == 29) = false ∧ (op == 3) = false ∧ (op == 15) = false) := by
    simp only [beq_eq_false_iff_ne]; omega
  rcases hc with rfl | rfl | rfl | rfl | rfl | ⟨h1, h2, h3, h4, h5⟩
  case inr.inr.inr.inr.inr =>
    have hz : opAcc op = 0 := by simp only [beq_eq_false_iff_ne] at h1 h2 h3 h4 h5; unfold opAcc; rw [if_neg (by omega), if_neg (by omega)]
    rw [hz]
    clear hz
    go_enter Tryz.func215, Tryz.ntmps215
    go_wp2
    go_ret
    exact ⟨rfl, rfl⟩
  all_goals
    go_enter Tryz.func215, Tryz.ntmps215
    go_wp2
    go_ret
    exact ⟨rfl, rfl⟩
set_option maxHeartbeats 2000000 in
theorem spec_OpAccess (op : Int) (w : World) : Calls Tryz.prog 212 #[.int .i64 op] w fun e w' => e = .returned (.int .i64 (opAcc op)) ∧ w = w' := by
  have hc : op = 2 ∨ op = 14 ∨ op = 29 ∨ op = 3 ∨ op = 15 ∨ ((op == 2) = false ∧ (op == 14) = false ∧ (op == 29) = false ∧ (op == 3) = false ∧ (op == 15) = false) := by
    simp only [beq_eq_false_iff_ne]; omega
  rcases hc with rfl | rfl | rfl | rfl | rfl | ⟨h1, h2, h3, h4, h5⟩
  case inr.inr.inr.inr.inr =>
    have hz : opAcc op = 0 := by simp only [beq_eq_false_iff_ne] at h1 h2 h3 h4 h5; unfold opAcc; rw [if_neg (by omega), if_neg (by omega)]
    rw [hz]
    clear hz
    go_enter Tryz.func212, Tryz.ntmps212
    go_wp2
    go_ret
    exact ⟨rfl, rfl⟩
  all_goals
    go_enter Tryz.func212, Tryz.ntmps212
    go_wp2
    go_ret
    exact ⟨rfl, rfl⟩
set_option maxHeartbeats 2000000 in
theorem impl_OpLen (op : Int) (w : World) : Calls Tryz.prog 197 #[.int .i64 op] w fun e w' => e = .returned (.int .i64 (opLen op)) ∧ w = w' := by
  have hc : (op = 1) ∨ ((op == 1) = false ∧ inB op 4 9 = true) ∨ op = 2 ∨ op = 3 ∨ op = 29 ∨ ((op == 1) = false ∧ inB op 4 9 = false ∧ (op == 2) = false ∧ (op == 3) = false ∧ inB op 14 20 = true) ∨ ((op == 1) = false ∧ inB op 4 9 = false ∧ (op == 2) = false ∧ (op == 3) = false ∧ inB op 14 20 = false ∧ (op == 29) = false) := by
    simp only [beq_eq_false_iff_ne, inB, Bool.and_eq_true, Bool.and_eq_false_iff, decide_eq_true_eq, decide_eq_false_iff_not]; omega
  rcases hc with rfl | ⟨h1, h2⟩ | rfl | rfl | rfl | ⟨h1, h2, h3, h4, h5⟩ | ⟨h1, h2, h3, h4, h5, h6⟩
  case inr.inl =>
    have hz : opLen op = 2 := by rw [inB_iff] at h2; unfold opLen; rw [if_pos (by omega)]
    rw [hz]
    clear hz
    go_enter Tryz.func197, Tryz.ntmps197
    go_wp2_with (go_at_call 123; (with_reducible refine (impl_within _ _ _ _).mono ?_); rintro e w1 ⟨rfl, rfl⟩)
    go_ret
    exact ⟨rfl, rfl⟩
  case inr.inr.inr.inr.inr.inl =>
    have hz : opLen op = 3 := by rw [inB_iff] at h5; unfold opLen; rw [if_neg (by omega), if_pos (by omega)]
    rw [hz]
    clear hz
    go_enter Tryz.func197, Tryz.ntmps197
    go_wp2_with (go_at_call 123; (with_reducible refine (impl_within _ _ _ _).mono ?_); rintro e w1 ⟨rfl, rfl⟩)
    go_ret
    exact ⟨rfl, rfl⟩
  case inr.inr.inr.inr.inr.inr =>
    have hz : opLen op = 1 := by
      simp only [beq_eq_false_iff_ne, inB, Bool.and_eq_false_iff, decide_eq_false_iff_not] at h1 h2 h3 h4 h5 h6
      unfold opLen; rw [if_neg (by omega), if_neg (by omega)]
    rw [hz]
    clear hz
    go_enter Tryz.func197, Tryz.ntmps197
    go_wp2_with (go_at_call 123; (with_reducible refine (impl_within _ _ _ _).mono ?_); rintro e w1 ⟨rfl, rfl⟩)
    go_ret
    exact ⟨rfl, rfl⟩
  all_goals
    go_enter Tryz.func197, Tryz.ntmps197
    go_wp2_with (go_at_call 123; (with_reducible refine (impl_within _ _ _ _).mono ?_); rintro e w1 ⟨rfl, rfl⟩)
    go_ret
    exact ⟨rfl, rfl⟩
set_option maxHeartbeats 4000000 in
theorem impl_OpCycles (op : Int) (w : World) : Calls Tryz.prog 143 #[.int .i64 op] w fun e w' => e = .returned (.int .i64 (opCyc op)) ∧ w = w' := by
  have hc : op = 2 ∨ op = 3 ∨ op = 14 ∨ op = 23 ∨ op = 29 ∨ op = 15 ∨ op = 16 ∨ op = 17 ∨ op = 18 ∨ op = 19 ∨ op = 22 ∨ op = 20 ∨ op = 21 ∨ op = 24 ∨ ((op == 2) = false ∧ (op == 3) = false ∧ (op == 14) = false ∧ (op == 23) = false ∧ (op == 29) = false ∧ (op == 15) = false ∧ (op == 16) = false ∧ (op == 17) = false ∧ (op == 18) = false ∧ (op == 19) = false ∧ (op == 22) = false ∧ (op == 20) = false ∧ (op == 21) = false ∧ (op == 24) = false) := by
    simp only [beq_eq_false_iff_ne]; omega
  rcases hc with rfl | rfl | rfl | rfl | rfl | rfl | rfl | rfl | rfl | rfl | rfl | rfl | rfl | rfl | ⟨h0, h1, h2, h3, h4, h5, h6, h7, h8, h9, h10, h11, h12, h13⟩
  case inr.inr.inr.inr.inr.inr.inr.inr.inr.inr.inr.inr.inr.inr =>
    have hz : opCyc op = 2 := by
      simp only [beq_eq_false_iff_ne] at h0 h1 h2 h3 h4 h5 h6 h7 h8 h9 h10 h11 h12 h13
      unfold opCyc; rw [if_neg (by omega), if_neg (by omega), if_neg (by omega), if_neg (by omega)]
    rw [hz]
    clear hz
    go_enter Tryz.func143, Tryz.ntmps143
    go_wp2
    go_ret
    exact ⟨rfl, rfl⟩
  all_goals
    go_enter Tryz.func143, Tryz.ntmps143
    go_wp2
    go_ret
    exact ⟨rfl, rfl⟩
def opLens : List Int := [1, 2, 3, 3, 2, 2, 2, 2, 2, 2, 1, 1, 1, 1, 3, 3, 3, 3, 3, 3, 3, 1, 1, 1, 1, 1, 1, 1, 1, 3]
theorem opLens_at : ∀ k : Nat, k < 30 → rd opLens k = opLen (k : Int) := by decide +kernel
theorem fill_opLens : Instr.fill (fun i => some (i * 1, 1)) ((Array.range (30 * 1)).map ((Value.cells (.int .i64 0))[· % (Value.cells (.int .i64 0)).size]!)) [(0, .int .i64 1), (1, .int .i64 2), (2, .int .i64 3), (3, .int .i64 3), (4, .int .i64 2), (5, .int .i64 2), (6, .int .i64 2), (7, .int .i64 2), (8, .int .i64 2), (9, .int .i64 2), (10, .int .i64 1), (11, .int .i64 1), (12, .int .i64 1), (13, .int .i64 1), (14, .int .i64 3), (15, .int .i64 3), (16, .int .i64 3), (17, .int .i64 3), (18, .int .i64 3), (19, .int .i64 3), (20, .int .i64 3), (21, .int .i64 1), (22, .int .i64 1), (23, .int .i64 1), (24, .int .i64 1), (25, .int .i64 1), (26, .int .i64 1), (27, .int .i64 1), (28, .int .i64 1), (29, .int .i64 3)] = some (nums opLens).toArray := by
  kernel_rfl
theorem opLens_out {op : Int} (h : inB op 0 29 = false) : opLen op = 1 := by
  simp only [inB, Bool.and_eq_false_iff, decide_eq_false_iff_not] at h
  unfold opLen
  (repeat' split) <;> omega
set_option maxHeartbeats 4000000 in
theorem spec_OpLen (op : Int) (w : World) : Calls Tryz.prog 211 #[.int .i64 op] w fun e w' => e = .returned (.int .i64 (opLen op)) ∧ Below w.heap.size w w' := by
  have H := St.nil w []
  cases h : inB op 0 29
  · rw [opLens_out h]
    go_enter Tryz.func211, Tryz.ntmps211
    go_wp2_with (first | (go_at_call 107; (with_reducible refine (spec_l1In _ _ _ _).mono ?_); rintro e w1 ⟨rfl, rfl⟩) | ((with_reducible refine g_load rfl ?_); refine eL1 H ?_))
    go_ret
    exact ⟨rfl, H.below⟩
  · obtain ⟨h0, h1⟩ := inB_iff.1 h
    obtain ⟨k, rfl⟩ : ∃ k : Nat, op = (k : Int) := ⟨op.toNat, by omega⟩
    have hk : k < 30 := by omega
    have hk2 : k < (opLens).length := hk
    rw [← opLens_at k hk]
    go_enter Tryz.func211, Tryz.ntmps211
    go_wp2_with (first | (go_at_call 107; (with_reducible refine (spec_l1In _ _ _ _).mono ?_); rintro e w1 ⟨rfl, rfl⟩) | ((with_reducible refine g_buildSlice rfl ?_); refine ev_buildSlice (vals := [(0, .int .i64 1), (1, .int .i64 2), (2, .int .i64 3), (3, .int .i64 3), (4, .int .i64 2), (5, .int .i64 2), (6, .int .i64 2), (7, .int .i64 2), (8, .int .i64 2), (9, .int .i64 2), (10, .int .i64 1), (11, .int .i64 1), (12, .int .i64 1), (13, .int .i64 1), (14, .int .i64 3), (15, .int .i64 3), (16, .int .i64 3), (17, .int .i64 3), (18, .int .i64 3), (19, .int .i64 3), (20, .int .i64 3), (21, .int .i64 1), (22, .int .i64 1), (23, .int .i64 1), (24, .int .i64 1), (25, .int .i64 1), (26, .int .i64 1), (27, .int .i64 1), (28, .int .i64 1), (29, .int .i64 3)]) (cells := nums opLens) H rfl rfl Tryz.underlying25 info_int (by simp only [List.map_toArray, List.map_cons, List.map_nil]; rfl) fill_opLens rfl (by decide) (by decide) (by decide) ?_; intro g_ W_ H_; (clear H; have H := (show St _ _ _ (intsA ⟨some ⟨g_, 0, none⟩, 30⟩ opLens :: _) from H_); clear H_)) | ((with_reducible refine g_load rfl ?_); refine ev_load_in_one rfl rfl rfl (oneT rfl) (ints_at3 (H.get (x := intsA ⟨some ⟨g_, 0, none⟩, 30⟩ opLens) pkA) hk2) ?_) | ((with_reducible refine g_load rfl ?_); refine eL1 H ?_))
    go_ret
    exact ⟨rfl, H.below⟩
def opCycs : List Int := [2, 2, 4, 4, 2, 2, 2, 2, 2, 2, 2, 2, 2, 2, 4, 5, 3, 3, 3, 3, 6, 6, 3, 4, 6, 2, 2, 2, 2, 4]
theorem opCycs_at : ∀ k : Nat, k < 30 → rd opCycs k = opCyc (k : Int) := by decide +kernel
theorem fill_opCycs : Instr.fill (fun i => some (i * 1, 1)) ((Array.range (30 * 1)).map ((Value.cells (.int .i64 0))[· % (Value.cells (.int .i64 0)).size]!)) [(0, .int .i64 2), (1, .int .i64 2), (2, .int .i64 4), (3, .int .i64 4), (4, .int .i64 2), (5, .int .i64 2), (6, .int .i64 2), (7, .int .i64 2), (8, .int .i64 2), (9, .int .i64 2), (10, .int .i64 2), (11, .int .i64 2), (12, .int .i64 2), (13, .int .i64 2), (14, .int .i64 4), (15, .int .i64 5), (16, .int .i64 3), (17, .int .i64 3), (18, .int .i64 3), (19, .int .i64 3), (20, .int .i64 6), (21, .int .i64 6), (22, .int .i64 3), (23, .int .i64 4), (24, .int .i64 6), (25, .int .i64 2), (26, .int .i64 2), (27, .int .i64 2), (28, .int .i64 2), (29, .int .i64 4)] = some (nums opCycs).toArray := by
  kernel_rfl
theorem opCycs_out {op : Int} (h : inB op 0 29 = false) : opCyc op = 2 := by
  simp only [inB, Bool.and_eq_false_iff, decide_eq_false_iff_not] at h
  unfold opCyc
  (repeat' split) <;> omega
set_option maxHeartbeats 4000000 in
theorem spec_OpCycles (op : Int) (w : World) : Calls Tryz.prog 169 #[.int .i64 op] w fun e w' => e = .returned (.int .i64 (opCyc op)) ∧ Below w.heap.size w w' := by
  have H := St.nil w []
  cases h : inB op 0 29
  · rw [opCycs_out h]
    go_enter Tryz.func169, Tryz.ntmps169
    go_wp2_with (first | (go_at_call 107; (with_reducible refine (spec_l1In _ _ _ _).mono ?_); rintro e w1 ⟨rfl, rfl⟩) | ((with_reducible refine g_load rfl ?_); refine eL1 H ?_))
    go_ret
    exact ⟨rfl, H.below⟩
  · obtain ⟨h0, h1⟩ := inB_iff.1 h
    obtain ⟨k, rfl⟩ : ∃ k : Nat, op = (k : Int) := ⟨op.toNat, by omega⟩
    have hk : k < 30 := by omega
    have hk2 : k < (opCycs).length := hk
    rw [← opCycs_at k hk]
    go_enter Tryz.func169, Tryz.ntmps169
    go_wp2_with (first | (go_at_call 107; (with_reducible refine (spec_l1In _ _ _ _).mono ?_); rintro e w1 ⟨rfl, rfl⟩) | ((with_reducible refine g_buildSlice rfl ?_); refine ev_buildSlice (vals := [(0, .int .i64 2), (1, .int .i64 2), (2, .int .i64 4), (3, .int .i64 4), (4, .int .i64 2), (5, .int .i64 2), (6, .int .i64 2), (7, .int .i64 2), (8, .int .i64 2), (9, .int .i64 2), (10, .int .i64 2), (11, .int .i64 2), (12, .int .i64 2), (13, .int .i64 2), (14, .int .i64 4), (15, .int .i64 5), (16, .int .i64 3), (17, .int .i64 3), (18, .int .i64 3), (19, .int .i64 3), (20, .int .i64 6), (21, .int .i64 6), (22, .int .i64 3), (23, .int .i64 4), (24, .int .i64 6), (25, .int .i64 2), (26, .int .i64 2), (27, .int .i64 2), (28, .int .i64 2), (29, .int .i64 4)]) (cells := nums opCycs) H rfl rfl Tryz.underlying25 info_int (by simp only [List.map_toArray, List.map_cons, List.map_nil]; rfl) fill_opCycs rfl (by decide) (by decide) (by decide) ?_; intro g_ W_ H_; (clear H; have H := (show St _ _ _ (intsA ⟨some ⟨g_, 0, none⟩, 30⟩ opCycs :: _) from H_); clear H_)) | ((with_reducible refine g_load rfl ?_); refine ev_load_in_one rfl rfl rfl (oneT rfl) (ints_at3 (H.get (x := intsA ⟨some ⟨g_, 0, none⟩, 30⟩ opCycs) pkA) hk2) ?_) | ((with_reducible refine g_load rfl ?_); refine eL1 H ?_))
    go_ret
    exact ⟨rfl, H.below⟩
theorem peekO_ok {x : MemD} {m : ImageD} (h : x.ok m = true) (a : Int) : x.peekO m a = x.peek m a := by simp [MemD.peekO, h]
theorem spec_PeekK (m : ImageD) (qm : ImageP) (x : MemD) (q : MemP) (a : Int) (N : Nat) (w : World) (hm : ImageIn w m qm) (hx : MemIn w x q) (hN : N = x.ram.length) (h : x.ok m = true) : Calls Tryz.prog 148 #[.agg #[.slice qm.banks.s.A m.banks.length qm.banks.s.c], .agg #[.slice q.ram.A N q.ram.c, .int .i64 x.bank], .int .i64 a] w fun e w' => e = .returned (.int .i64 (x.peek m a)) ∧ Below w.heap.size w w' := by
  have := spec_Peek m qm x q a N w hm hx hN
  rwa [peekO_ok h] at this
set_option maxHeartbeats 8000000 in
theorem impl_fetch (m : ImageD) (qm : ImageP) (x : MemD) (q : MemP) (pc : Int) (w : World) (hm : ImageIn w m qm) (hx : MemIn w x q) (hok : x.ok m = true) (h0 : 0 ≤ pc) (h1 : pc ≤ 65535) : Calls Tryz.prog 142 #[.agg #[.slice qm.banks.s.A m.banks.length qm.banks.s.c], .agg #[.slice q.ram.A x.ram.length q.ram.c, .int .i64 x.bank], .int .i64 pc] w fun e w' => e = .returned (.agg #[.int .i64 (x.fetch m pc).op, .int .i64 (x.fetch m pc).arg]) ∧ Below w.heap.size w w' := by
  have H := St.nil w []
  have HO := Lib.hid hok
  clear hok
  have hz : (x.fetch m pc).op = x.peek m pc := rfl
  rcases opLen_cases (x.peek m pc) with hL | hL | hL
  · have ha : (x.fetch m pc).arg = 0 := by simp [MemD.fetch, hL]
    rw [hz, ha]
    clear hz ha
    go_enter Tryz.func142, Tryz.ntmps142
    go_wp2_with (first | (go_at_call 130; (with_reducible refine (impl_peek m qm x q _ _ _ (hm.on H) (hx.on H) rfl HO.out).mono ?_); rintro e w1 ⟨rfl, hb⟩; (replace H := H.callB hb; clear hb)) | (go_at_call 197; (with_reducible refine (impl_OpLen _ _).mono ?_); rintro e w1 ⟨rfl, rfl⟩; rw [hL]) | ((with_reducible refine g_box rfl ?_); refine eBa H ?_; clear H; intro g_ W_ H) | ((with_reducible refine g_alloc rfl ?_); refine eNw H ?_; clear H; intro g_ W_ H) | ((with_reducible refine g_load rfl ?_); first | refine eL1 H ?_ | refine eLa H ?_) | ((with_reducible refine g_store rfl ?_); (first | refine eSi H ?_ | refine eSa H ?_); clear H; intro W_ H))
    refine' back1 Tryz.results142 ?_ rfl ⟨?_, H.below⟩; rotate_left 1; exact rvA
    rfl
  · have ha : (x.fetch m pc).arg = x.peek m (pc + 1) := by simp [MemD.fetch, hL]
    rw [hz, ha]
    clear hz ha
    go_enter Tryz.func142, Tryz.ntmps142
    go_wp2_with (first | (go_at_call 130; (with_reducible refine (impl_peek m qm x q _ _ _ (hm.on H) (hx.on H) rfl HO.out).mono ?_); rintro e w1 ⟨rfl, hb⟩; (replace H := H.callB hb; clear hb)) | (go_at_call 197; (with_reducible refine (impl_OpLen _ _).mono ?_); rintro e w1 ⟨rfl, rfl⟩; rw [hL]) | ((with_reducible refine g_box rfl ?_); refine eBa H ?_; clear H; intro g_ W_ H) | ((with_reducible refine g_alloc rfl ?_); refine eNw H ?_; clear H; intro g_ W_ H) | ((with_reducible refine g_load rfl ?_); first | refine eL1 H ?_ | refine eLa H ?_) | ((with_reducible refine g_store rfl ?_); (first | refine eSi H ?_ | refine eSa H ?_); clear H; intro W_ H))
    refine' back1 Tryz.results142 ?_ rfl ⟨?_, H.below⟩; rotate_left 1; exact rvA
    rfl
  · have ha : (x.fetch m pc).arg = joinB (x.peek m (pc + 1)) (x.peek m (pc + 2)) := by simp [MemD.fetch, hL]
    rw [hz, ha]
    clear hz ha
    go_enter Tryz.func142, Tryz.ntmps142
    go_upto_region 6 with (first | (go_at_call 130; (with_reducible refine (impl_peek m qm x q _ _ _ (hm.on H) (hx.on H) rfl HO.out).mono ?_); rintro e w1 ⟨rfl, hb⟩; (replace H := H.callB hb; clear hb)) | (go_at_call 197; (with_reducible refine (impl_OpLen _ _).mono ?_); rintro e w1 ⟨rfl, rfl⟩; rw [hL]) | ((with_reducible refine g_box rfl ?_); refine eBa H ?_; clear H; intro g_ W_ H) | ((with_reducible refine g_alloc rfl ?_); refine eNw H ?_; clear H; intro g_ W_ H) | ((with_reducible refine g_load rfl ?_); first | refine eL1 H ?_ | refine eLa H ?_) | ((with_reducible refine g_store rfl ?_); (first | refine eSi H ?_ | refine eSa H ?_); clear H; intro W_ H))
    (with_reducible refine g_draw ?_)
    try simp only [Act.put, List.setIfInBounds_toArray, List.set_cons_succ, List.set_cons_zero]
    refine F_begin (ls := #[false, false, false, false, false, false, false, false, false, false, false, false, false]) (by kernel_rfl) rfl (by kernel_rfl) ?_
    have H_ := H.drew
    (clear H; have H := H_; clear H_)
    refine T_go [(1, 0, 26), (1, 1, 27), (0, 2, 28), (0, 3, 29), (1, 5, 31), (1, 6, 32), (0, 7, 33), (0, 8, 34)] ?_; (repeat (first | refine T_pA ?_ | refine T_rA ?_)); refine T_end ?_
    refine F_eA (ls' := #[true, true, true, true, true, true, true, true, true, false, false, false, false]) (pend' := [6, 5]) 4 ?_; intro K_ hK_; (conv => (arg 4; arg 1; whnf)); (repeat (first | refine hK_ _ _ rfl ?_ ?_ | (go_big_may; (go_at_call 130; (with_reducible refine (impl_peek m qm x q _ _ _ (hm.on H) (hx.on H) rfl HO.out).mono ?_); rintro e w1 ⟨rfl, hb⟩; (replace H := H.callB hb; clear hb))) | go_step | go_guarded | go_upon | dsimp only)); (focus (refine kept_cA 6 32 ?_; refine kept_cA 5 31 ?_; exact kept_nil))
    refine F_eA (ls' := #[true, true, true, true, true, true, true, true, true, true, false, false, false]) (pend' := []) 9 ?_; intro K_ hK_; (conv => (arg 4; arg 1; whnf)); (repeat (first | refine hK_ _ _ rfl ?_ ?_ | (go_big_may; (go_at_call 130; (with_reducible refine (impl_peek m qm x q _ _ _ (hm.on H) (hx.on H) rfl HO.out).mono ?_); rintro e w1 ⟨rfl, hb⟩; (replace H := H.callB hb; clear hb))) | go_step | go_guarded | go_upon | dsimp only)); exact kept_nil
    refine T_go [(0, 10, 36), (0, 11, 37)] ?_; (repeat ((refine' T_pure _ rfl rfl (by kernel_rfl) (Nat.le_of_ble_eq_true (by kernel_rfl)) (fun w2_ K_ hK_ => ?_) ?_; rotate_left 1; focus ((conv => (arg 4; arg 1; whnf)); (repeat (first | exact hK_ rfl | (go_big_may; (go_at_call 198; (with_reducible refine (impl_Join _ _ _).mono ?_); rintro e w1 ⟨rfl, rfl⟩)) | go_step | go_guarded | go_upon | dsimp only)); done)))); refine T_end ?_
    refine F_eA (ls' := #[true, true, true, true, true, true, true, true, true, true, true, true, true]) (pend' := []) 12 ?_; intro K_ hK_; (conv => (arg 4; arg 1; whnf)); (repeat (first | refine hK_ _ _ rfl ?_ ?_ | (go_big_may; (first | ((with_reducible refine g_load rfl ?_); first | refine eL1 H ?_ | refine eLa H ?_) | ((with_reducible refine g_store rfl ?_); (first | refine eSi H ?_ | refine eSa H ?_); clear H; intro W_ H))) | go_step | go_guarded | go_upon | dsimp only)); exact kept_nil
    refine F_done (by kernel_rfl) ?_
    go_wp2_with (first | ((with_reducible refine g_box rfl ?_); refine eBa H ?_; clear H; intro g_ W_ H) | ((with_reducible refine g_alloc rfl ?_); refine eNw H ?_; clear H; intro g_ W_ H) | ((with_reducible refine g_load rfl ?_); first | refine eL1 H ?_ | refine eLa H ?_) | ((with_reducible refine g_store rfl ?_); (first | refine eSi H ?_ | refine eSa H ?_); clear H; intro W_ H))
    refine' back1 Tryz.results142 ?_ rfl ⟨?_, H.below⟩; rotate_left 1; exact rvA
    rfl
set_option maxHeartbeats 8000000 in
theorem spec_Fetch (m : ImageD) (qm : ImageP) (x : MemD) (q : MemP) (pc : Int) (w : World) (hm : ImageIn w m qm) (hx : MemIn w x q) (hok : x.ok m = true) (h0 : 0 ≤ pc) (h1 : pc ≤ 65535) : Calls Tryz.prog 166 #[.agg #[.slice qm.banks.s.A m.banks.length qm.banks.s.c], .agg #[.slice q.ram.A x.ram.length q.ram.c, .int .i64 x.bank], .int .i64 pc] w fun e w' => e = .returned (.agg #[.int .i64 (x.fetch m pc).op, .int .i64 (x.fetch m pc).arg]) ∧ Below w.heap.size w w' := by
  have H := St.nil w []
  have HO := Lib.hid hok
  clear hok
  have hz : (x.fetch m pc).op = x.peek m pc := rfl
  rcases opLen_cases (x.peek m pc) with hL | hL | hL
  · have ha : (x.fetch m pc).arg = 0 := by simp [MemD.fetch, hL]
    rw [hz, ha]
    clear hz ha
    go_enter Tryz.func166, Tryz.ntmps166
    go_wp2_with (first | (go_at_call 148; (with_reducible refine (spec_PeekK m qm x q _ _ _ (hm.on H) (hx.on H) rfl HO.out).mono ?_); rintro e w1 ⟨rfl, hb⟩; (replace H := H.callB hb; clear hb)) | (go_at_call 211; (with_reducible refine (spec_OpLen _ _).mono ?_); rintro e w1 ⟨rfl, hb⟩; rw [hL]; (replace H := H.callB hb; clear hb)) | ((with_reducible refine g_box rfl ?_); refine eBa H ?_; clear H; intro g_ W_ H) | ((with_reducible refine g_alloc rfl ?_); refine eNw H ?_; clear H; intro g_ W_ H) | ((with_reducible refine g_load rfl ?_); first | refine eL1 H ?_ | refine eLa H ?_) | ((with_reducible refine g_store rfl ?_); (first | refine eSi H ?_ | refine eSa H ?_); clear H; intro W_ H))
    refine' back1 Tryz.results166 ?_ rfl ⟨?_, H.below⟩; rotate_left 1; exact rvA
    rfl
  · have ha : (x.fetch m pc).arg = x.peek m (pc + 1) := by simp [MemD.fetch, hL]
    rw [hz, ha]
    clear hz ha
    go_enter Tryz.func166, Tryz.ntmps166
    go_wp2_with (first | (go_at_call 148; (with_reducible refine (spec_PeekK m qm x q _ _ _ (hm.on H) (hx.on H) rfl HO.out).mono ?_); rintro e w1 ⟨rfl, hb⟩; (replace H := H.callB hb; clear hb)) | (go_at_call 211; (with_reducible refine (spec_OpLen _ _).mono ?_); rintro e w1 ⟨rfl, hb⟩; rw [hL]; (replace H := H.callB hb; clear hb)) | ((with_reducible refine g_box rfl ?_); refine eBa H ?_; clear H; intro g_ W_ H) | ((with_reducible refine g_alloc rfl ?_); refine eNw H ?_; clear H; intro g_ W_ H) | ((with_reducible refine g_load rfl ?_); first | refine eL1 H ?_ | refine eLa H ?_) | ((with_reducible refine g_store rfl ?_); (first | refine eSi H ?_ | refine eSa H ?_); clear H; intro W_ H))
    refine' back1 Tryz.results166 ?_ rfl ⟨?_, H.below⟩; rotate_left 1; exact rvA
    rfl
  · have ha : (x.fetch m pc).arg = joinB (x.peek m (pc + 1)) (x.peek m (pc + 2)) := by simp [MemD.fetch, hL]
    rw [hz, ha]
    clear hz ha
    go_enter Tryz.func166, Tryz.ntmps166
    go_upto_region 6 with (first | (go_at_call 148; (with_reducible refine (spec_PeekK m qm x q _ _ _ (hm.on H) (hx.on H) rfl HO.out).mono ?_); rintro e w1 ⟨rfl, hb⟩; (replace H := H.callB hb; clear hb)) | (go_at_call 211; (with_reducible refine (spec_OpLen _ _).mono ?_); rintro e w1 ⟨rfl, hb⟩; rw [hL]; (replace H := H.callB hb; clear hb)) | ((with_reducible refine g_box rfl ?_); refine eBa H ?_; clear H; intro g_ W_ H) | ((with_reducible refine g_alloc rfl ?_); refine eNw H ?_; clear H; intro g_ W_ H) | ((with_reducible refine g_load rfl ?_); first | refine eL1 H ?_ | refine eLa H ?_) | ((with_reducible refine g_store rfl ?_); (first | refine eSi H ?_ | refine eSa H ?_); clear H; intro W_ H))
    (with_reducible refine g_draw ?_)
    try simp only [Act.put, List.setIfInBounds_toArray, List.set_cons_succ, List.set_cons_zero]
    refine F_begin (ls := #[false, false, false, false, false, false, false, false, false, false, false, false, false]) (by kernel_rfl) rfl (by kernel_rfl) ?_
    have H_ := H.drew
    (clear H; have H := H_; clear H_)
    refine T_go [(1, 0, 26), (1, 1, 27), (0, 2, 28), (0, 3, 29), (1, 5, 31), (1, 6, 32), (0, 7, 33), (0, 8, 34)] ?_; (repeat (first | refine T_pA ?_ | refine T_rA ?_)); refine T_end ?_
    refine F_eA (ls' := #[true, true, true, true, true, true, true, true, true, false, false, false, false]) (pend' := [6, 5]) 4 ?_; intro K_ hK_; (conv => (arg 4; arg 1; whnf)); (repeat (first | refine hK_ _ _ rfl ?_ ?_ | (go_big_may; (go_at_call 148; (with_reducible refine (spec_PeekK m qm x q _ _ _ (hm.on H) (hx.on H) rfl HO.out).mono ?_); rintro e w1 ⟨rfl, hb⟩; (replace H := H.callB hb; clear hb))) | go_step | go_guarded | go_upon | dsimp only)); (focus (refine kept_cA 6 32 ?_; refine kept_cA 5 31 ?_; exact kept_nil))
    refine F_eA (ls' := #[true, true, true, true, true, true, true, true, true, true, false, false, false]) (pend' := []) 9 ?_; intro K_ hK_; (conv => (arg 4; arg 1; whnf)); (repeat (first | refine hK_ _ _ rfl ?_ ?_ | (go_big_may; (go_at_call 148; (with_reducible refine (spec_PeekK m qm x q _ _ _ (hm.on H) (hx.on H) rfl HO.out).mono ?_); rintro e w1 ⟨rfl, hb⟩; (replace H := H.callB hb; clear hb))) | go_step | go_guarded | go_upon | dsimp only)); exact kept_nil
    refine T_go [(0, 10, 36), (0, 11, 37)] ?_; (repeat ((refine' T_pure _ rfl rfl (by kernel_rfl) (Nat.le_of_ble_eq_true (by kernel_rfl)) (fun w2_ K_ hK_ => ?_) ?_; rotate_left 1; focus ((conv => (arg 4; arg 1; whnf)); (repeat (first | exact hK_ rfl | (go_big_may; (go_at_call 147; (with_reducible refine (spec_Join _ _ _).mono ?_); rintro e w1 ⟨rfl, rfl⟩)) | go_step | go_guarded | go_upon | dsimp only)); done)))); refine T_end ?_
    refine F_eA (ls' := #[true, true, true, true, true, true, true, true, true, true, true, true, true]) (pend' := []) 12 ?_; intro K_ hK_; (conv => (arg 4; arg 1; whnf)); (repeat (first | refine hK_ _ _ rfl ?_ ?_ | (go_big_may; (first | ((with_reducible refine g_load rfl ?_); first | refine eL1 H ?_ | refine eLa H ?_) | ((with_reducible refine g_store rfl ?_); (first | refine eSi H ?_ | refine eSa H ?_); clear H; intro W_ H))) | go_step | go_guarded | go_upon | dsimp only)); exact kept_nil
    refine F_done (by kernel_rfl) ?_
    go_wp2_with (first | ((with_reducible refine g_box rfl ?_); refine eBa H ?_; clear H; intro g_ W_ H) | ((with_reducible refine g_alloc rfl ?_); refine eNw H ?_; clear H; intro g_ W_ H) | ((with_reducible refine g_load rfl ?_); first | refine eL1 H ?_ | refine eLa H ?_) | ((with_reducible refine g_store rfl ?_); (first | refine eSi H ?_ | refine eSa H ?_); clear H; intro W_ H))
    refine' back1 Tryz.results166 ?_ rfl ⟨?_, H.below⟩; rotate_left 1; exact rvA
    rfl
set_option maxHeartbeats 8000000 in
theorem impl_Access (i : InstrD) (c : CpuD) (w : World) (h0 : 0 ≤ i.arg ∧ i.arg ≤ 65535) (h1 : 0 ≤ c.x ∧ c.x ≤ 255) : Calls Tryz.prog 175 #[.agg #[.int .i64 i.op, .int .i64 i.arg], .agg #[.int .i64 c.a, .int .i64 c.x, .int .i64 c.s, .int .i64 c.pc, .bool c.z, .bool c.n, .bool c.c, .bool c.i]] w fun e w' => e = .returned (.tuple #[.int .i64 (opAcc i.op), .int .i64 (accA i c), .int .i64 (accV i c)]) ∧ Below w.heap.size w w' := by
  have H := St.nil w []
  obtain ⟨a0, a1⟩ := h0
  obtain ⟨x0, x1⟩ := h1
  obtain ⟨op, arg⟩ := i
  simp only at a0 a1 ⊢
  have hc : op = 2 ∨ op = 29 ∨ op = 3 ∨ op = 14 ∨ op = 15 ∨ ((op == 14) = false ∧ (op == 15) = false ∧ opAcc op = 0) := by
    have e : (op ≠ 2 ∧ op ≠ 14 ∧ op ≠ 29 ∧ op ≠ 3 ∧ op ≠ 15) → opAcc op = 0 := fun h => by unfold opAcc; rw [if_neg (by omega), if_neg (by omega)]
    by_cases h : op = 2 ∨ op = 29 ∨ op = 3 ∨ op = 14 ∨ op = 15
    · omega
    · exact .inr (.inr (.inr (.inr (.inr ⟨by simp; omega, by simp; omega, e (by omega)⟩))))
  rcases hc with rfl | rfl | rfl | rfl | rfl | ⟨h1, h2, h3⟩
  · have hk : opAcc 2 = 1 := rfl
    have ha : accA ⟨2, arg⟩ c = arg % 65536 := rfl
    have hv : accV ⟨2, arg⟩ c = 0 := rfl
    rw [ha, hv]
    clear ha hv
    go_enter Tryz.func175, Tryz.ntmps175
    go_wp2_with (first | (go_at_call 215; (with_reducible refine (impl_OpAccess _ _).mono ?_); rintro e w1 ⟨rfl, rfl⟩; rw [hk]) | (go_at_call 187; (with_reducible refine (impl_Addr _ _).mono ?_); rintro e w1 ⟨rfl, rfl⟩) | (go_at_call 192; (with_reducible refine (impl_Byte _ _).mono ?_); rintro e w1 ⟨rfl, rfl⟩) | ((with_reducible refine g_box rfl ?_); refine eBa H ?_; clear H; intro g_ W_ H) | ((with_reducible refine g_load rfl ?_); refine eL1 H ?_))
    refine' back3 Tryz.results175 ?_ ?_ ?_ rfl ⟨?_, H.below⟩; rotate_left 3; exact rvA; exact rvA; exact rvA
    rfl
  · have hk : opAcc 29 = 1 := rfl
    have ha : accA ⟨29, arg⟩ c = arg % 65536 := rfl
    have hv : accV ⟨29, arg⟩ c = 0 := rfl
    rw [ha, hv]
    clear ha hv
    go_enter Tryz.func175, Tryz.ntmps175
    go_wp2_with (first | (go_at_call 215; (with_reducible refine (impl_OpAccess _ _).mono ?_); rintro e w1 ⟨rfl, rfl⟩; rw [hk]) | (go_at_call 187; (with_reducible refine (impl_Addr _ _).mono ?_); rintro e w1 ⟨rfl, rfl⟩) | (go_at_call 192; (with_reducible refine (impl_Byte _ _).mono ?_); rintro e w1 ⟨rfl, rfl⟩) | ((with_reducible refine g_box rfl ?_); refine eBa H ?_; clear H; intro g_ W_ H) | ((with_reducible refine g_load rfl ?_); refine eL1 H ?_))
    refine' back3 Tryz.results175 ?_ ?_ ?_ rfl ⟨?_, H.below⟩; rotate_left 3; exact rvA; exact rvA; exact rvA
    rfl
  · have hk : opAcc 3 = 2 := rfl
    have ha : accA ⟨3, arg⟩ c = arg % 65536 := rfl
    have hv : accV ⟨3, arg⟩ c = c.a % 256 := rfl
    rw [ha, hv]
    clear ha hv
    go_enter Tryz.func175, Tryz.ntmps175
    go_wp2_with (first | (go_at_call 215; (with_reducible refine (impl_OpAccess _ _).mono ?_); rintro e w1 ⟨rfl, rfl⟩; rw [hk]) | (go_at_call 187; (with_reducible refine (impl_Addr _ _).mono ?_); rintro e w1 ⟨rfl, rfl⟩) | (go_at_call 192; (with_reducible refine (impl_Byte _ _).mono ?_); rintro e w1 ⟨rfl, rfl⟩) | ((with_reducible refine g_box rfl ?_); refine eBa H ?_; clear H; intro g_ W_ H) | ((with_reducible refine g_load rfl ?_); refine eL1 H ?_))
    refine' back3 Tryz.results175 ?_ ?_ ?_ rfl ⟨?_, H.below⟩; rotate_left 3; exact rvA; exact rvA; exact rvA
    rfl
  · have hk : opAcc 14 = 1 := rfl
    have ha : accA ⟨14, arg⟩ c = (arg + c.x) % 65536 := rfl
    have hv : accV ⟨14, arg⟩ c = 0 := rfl
    rw [ha, hv]
    clear ha hv
    go_enter Tryz.func175, Tryz.ntmps175
    go_wp2_with (first | (go_at_call 215; (with_reducible refine (impl_OpAccess _ _).mono ?_); rintro e w1 ⟨rfl, rfl⟩; rw [hk]) | (go_at_call 187; (with_reducible refine (impl_Addr _ _).mono ?_); rintro e w1 ⟨rfl, rfl⟩) | (go_at_call 192; (with_reducible refine (impl_Byte _ _).mono ?_); rintro e w1 ⟨rfl, rfl⟩) | ((with_reducible refine g_box rfl ?_); refine eBa H ?_; clear H; intro g_ W_ H) | ((with_reducible refine g_load rfl ?_); refine eL1 H ?_))
    refine' back3 Tryz.results175 ?_ ?_ ?_ rfl ⟨?_, H.below⟩; rotate_left 3; exact rvA; exact rvA; exact rvA
    rfl
  · have hk : opAcc 15 = 2 := rfl
    have ha : accA ⟨15, arg⟩ c = (arg + c.x) % 65536 := rfl
    have hv : accV ⟨15, arg⟩ c = c.a % 256 := rfl
    rw [ha, hv]
    clear ha hv
    go_enter Tryz.func175, Tryz.ntmps175
    go_wp2_with (first | (go_at_call 215; (with_reducible refine (impl_OpAccess _ _).mono ?_); rintro e w1 ⟨rfl, rfl⟩; rw [hk]) | (go_at_call 187; (with_reducible refine (impl_Addr _ _).mono ?_); rintro e w1 ⟨rfl, rfl⟩) | (go_at_call 192; (with_reducible refine (impl_Byte _ _).mono ?_); rintro e w1 ⟨rfl, rfl⟩) | ((with_reducible refine g_box rfl ?_); refine eBa H ?_; clear H; intro g_ W_ H) | ((with_reducible refine g_load rfl ?_); refine eL1 H ?_))
    refine' back3 Tryz.results175 ?_ ?_ ?_ rfl ⟨?_, H.below⟩; rotate_left 3; exact rvA; exact rvA; exact rvA
    rfl
  · have ha : accA ⟨op, arg⟩ c = 0 := by simp [accA, h3]
    have hv : accV ⟨op, arg⟩ c = 0 := by simp [accV, h3]
    rw [ha, hv, h3]
    clear ha hv
    have hk := h3
    clear h3
    go_enter Tryz.func175, Tryz.ntmps175
    go_wp2_with (first | (go_at_call 215; (with_reducible refine (impl_OpAccess _ _).mono ?_); rintro e w1 ⟨rfl, rfl⟩; rw [hk]) | (go_at_call 187; (with_reducible refine (impl_Addr _ _).mono ?_); rintro e w1 ⟨rfl, rfl⟩) | (go_at_call 192; (with_reducible refine (impl_Byte _ _).mono ?_); rintro e w1 ⟨rfl, rfl⟩) | ((with_reducible refine g_box rfl ?_); refine eBa H ?_; clear H; intro g_ W_ H) | ((with_reducible refine g_load rfl ?_); refine eL1 H ?_))
    refine' back3 Tryz.results175 ?_ ?_ ?_ rfl ⟨?_, H.below⟩; rotate_left 3; exact rvA; exact rvA; exact rvA
    rfl
set_option maxHeartbeats 8000000 in
theorem spec_Access (i : InstrD) (c : CpuD) (w : World) (h0 : 0 ≤ i.arg ∧ i.arg ≤ 65535) (h1 : 0 ≤ c.x ∧ c.x ≤ 255) : Calls Tryz.prog 167 #[.agg #[.int .i64 i.op, .int .i64 i.arg], .agg #[.int .i64 c.a, .int .i64 c.x, .int .i64 c.s, .int .i64 c.pc, .bool c.z, .bool c.n, .bool c.c, .bool c.i]] w fun e w' => e = .returned (.tuple #[.int .i64 (opAcc i.op), .int .i64 (accA i c), .int .i64 (accV i c)]) ∧ Below w.heap.size w w' := by
  have H := St.nil w []
  obtain ⟨a0, a1⟩ := h0
  obtain ⟨x0, x1⟩ := h1
  obtain ⟨op, arg⟩ := i
  simp only at a0 a1 ⊢
  have hc : op = 2 ∨ op = 29 ∨ op = 3 ∨ op = 14 ∨ op = 15 ∨ ((op == 14) = false ∧ (op == 15) = false ∧ opAcc op = 0) := by
    have e : (op ≠ 2 ∧ op ≠ 14 ∧ op ≠ 29 ∧ op ≠ 3 ∧ op ≠ 15) → opAcc op = 0 := fun h => by unfold opAcc; rw [if_neg (by omega), if_neg (by omega)]
    by_cases h : op = 2 ∨ op = 29 ∨ op = 3 ∨ op = 14 ∨ op = 15
    · omega
    · exact .inr (.inr (.inr (.inr (.inr ⟨by simp; omega, by simp; omega, e (by omega)⟩))))
  rcases hc with rfl | rfl | rfl | rfl | rfl | ⟨h1, h2, h3⟩
  · have hk : opAcc 2 = 1 := rfl
    have ha : accA ⟨2, arg⟩ c = arg % 65536 := rfl
    have hv : accV ⟨2, arg⟩ c = 0 := rfl
    rw [ha, hv]
    clear ha hv
    go_enter Tryz.func167, Tryz.ntmps167
    go_wp2_with (first | (go_at_call 212; (with_reducible refine (spec_OpAccess _ _).mono ?_); rintro e w1 ⟨rfl, rfl⟩; rw [hk]) | (go_at_call 180; (with_reducible refine (spec_Addr _ _).mono ?_); rintro e w1 ⟨rfl, rfl⟩) | (go_at_call 191; (with_reducible refine (spec_Byte _ _).mono ?_); rintro e w1 ⟨rfl, rfl⟩) | ((with_reducible refine g_box rfl ?_); refine eBa H ?_; clear H; intro g_ W_ H) | ((with_reducible refine g_load rfl ?_); refine eL1 H ?_))
    refine' back3 Tryz.results167 ?_ ?_ ?_ rfl ⟨?_, H.below⟩; rotate_left 3; exact rvA; exact rvA; exact rvA
    rfl
  · have hk : opAcc 29 = 1 := rfl
    have ha : accA ⟨29, arg⟩ c = arg % 65536 := rfl
    have hv : accV ⟨29, arg⟩ c = 0 := rfl
    rw [ha, hv]
    clear ha hv
    go_enter Tryz.func167, Tryz.ntmps167
    go_wp2_with (first | (go_at_call 212; (with_reducible refine (spec_OpAccess _ _).mono ?_); rintro e w1 ⟨rfl, rfl⟩; rw [hk]) | (go_at_call 180; (with_reducible refine (spec_Addr _ _).mono ?_); rintro e w1 ⟨rfl, rfl⟩) | (go_at_call 191; (with_reducible refine (spec_Byte _ _).mono ?_); rintro e w1 ⟨rfl, rfl⟩) | ((with_reducible refine g_box rfl ?_); refine eBa H ?_; clear H; intro g_ W_ H) | ((with_reducible refine g_load rfl ?_); refine eL1 H ?_))
    refine' back3 Tryz.results167 ?_ ?_ ?_ rfl ⟨?_, H.below⟩; rotate_left 3; exact rvA; exact rvA; exact rvA
    rfl
  · have hk : opAcc 3 = 2 := rfl
    have ha : accA ⟨3, arg⟩ c = arg % 65536 := rfl
    have hv : accV ⟨3, arg⟩ c = c.a % 256 := rfl
    rw [ha, hv]
    clear ha hv
    go_enter Tryz.func167, Tryz.ntmps167
    go_upto_region 9 with (first | (go_at_call 212; (with_reducible refine (spec_OpAccess _ _).mono ?_); rintro e w1 ⟨rfl, rfl⟩; rw [hk]) | (go_at_call 180; (with_reducible refine (spec_Addr _ _).mono ?_); rintro e w1 ⟨rfl, rfl⟩) | (go_at_call 191; (with_reducible refine (spec_Byte _ _).mono ?_); rintro e w1 ⟨rfl, rfl⟩) | ((with_reducible refine g_box rfl ?_); refine eBa H ?_; clear H; intro g_ W_ H) | ((with_reducible refine g_load rfl ?_); refine eL1 H ?_))
    (with_reducible refine g_draw ?_)
    try simp only [Act.put, List.setIfInBounds_toArray, List.set_cons_succ, List.set_cons_zero]
    refine F_begin (ls := #[false, false, false, false, false, false, false, false, false]) (by kernel_rfl) rfl (by kernel_rfl) ?_
    have H_ := H.drew
    (clear H; have H := H_; clear H_)
    refine T_go [(0, 0, 34), (0, 1, 35), (0, 2, 36), (0, 3, 37), (1, 4, 38), (0, 5, 39), (0, 6, 4), (0, 7, 5), (0, 8, 6)] ?_; (repeat (first | (refine' T_pure _ rfl rfl (by kernel_rfl) (Nat.le_of_ble_eq_true (by kernel_rfl)) (fun w2_ K_ hK_ => ?_) ?_; rotate_left 1; focus ((conv => (arg 4; arg 1; whnf)); (repeat (first | exact hK_ rfl | (go_big_may; (first | (go_at_call 180; (with_reducible refine (spec_Addr _ _).mono ?_); rintro e w1 ⟨rfl, rfl⟩) | (go_at_call 191; (with_reducible refine (spec_Byte _ _).mono ?_); rintro e w1 ⟨rfl, rfl⟩) | ((with_reducible refine g_load rfl ?_); refine eL1 H ?_))) | go_step | go_guarded | go_upon | dsimp only)); done)) | (refine' T_read _ rfl rfl (by kernel_rfl) (Nat.le_of_ble_eq_true (by kernel_rfl)) (fun K_ hK_ => ?_) ?_; rotate_left 1; focus ((conv => (arg 4; arg 1; whnf)); (repeat (first | exact hK_ rfl | (go_big_may; (first | (go_at_call 180; (with_reducible refine (spec_Addr _ _).mono ?_); rintro e w1 ⟨rfl, rfl⟩) | (go_at_call 191; (with_reducible refine (spec_Byte _ _).mono ?_); rintro e w1 ⟨rfl, rfl⟩) | ((with_reducible refine g_load rfl ?_); refine eL1 H ?_))) | go_step | go_guarded | go_upon | dsimp only)); done)))); refine T_end ?_
    refine F_done (by kernel_rfl) ?_
    go_wp2_with (first | ((with_reducible refine g_box rfl ?_); refine eBa H ?_; clear H; intro g_ W_ H) | ((with_reducible refine g_load rfl ?_); refine eL1 H ?_))
    refine' back3 Tryz.results167 ?_ ?_ ?_ rfl ⟨?_, H.below⟩; rotate_left 3; exact rvA; exact rvA; exact rvA
    rfl
  · have hk : opAcc 14 = 1 := rfl
    have ha : accA ⟨14, arg⟩ c = (arg + c.x) % 65536 := rfl
    have hv : accV ⟨14, arg⟩ c = 0 := rfl
    rw [ha, hv]
    clear ha hv
    go_enter Tryz.func167, Tryz.ntmps167
    go_wp2_with (first | (go_at_call 212; (with_reducible refine (spec_OpAccess _ _).mono ?_); rintro e w1 ⟨rfl, rfl⟩; rw [hk]) | (go_at_call 180; (with_reducible refine (spec_Addr _ _).mono ?_); rintro e w1 ⟨rfl, rfl⟩) | (go_at_call 191; (with_reducible refine (spec_Byte _ _).mono ?_); rintro e w1 ⟨rfl, rfl⟩) | ((with_reducible refine g_box rfl ?_); refine eBa H ?_; clear H; intro g_ W_ H) | ((with_reducible refine g_load rfl ?_); refine eL1 H ?_))
    refine' back3 Tryz.results167 ?_ ?_ ?_ rfl ⟨?_, H.below⟩; rotate_left 3; exact rvA; exact rvA; exact rvA
    rfl
  · have hk : opAcc 15 = 2 := rfl
    have ha : accA ⟨15, arg⟩ c = (arg + c.x) % 65536 := rfl
    have hv : accV ⟨15, arg⟩ c = c.a % 256 := rfl
    rw [ha, hv]
    clear ha hv
    go_enter Tryz.func167, Tryz.ntmps167
    go_upto_region 9 with (first | (go_at_call 212; (with_reducible refine (spec_OpAccess _ _).mono ?_); rintro e w1 ⟨rfl, rfl⟩; rw [hk]) | (go_at_call 180; (with_reducible refine (spec_Addr _ _).mono ?_); rintro e w1 ⟨rfl, rfl⟩) | (go_at_call 191; (with_reducible refine (spec_Byte _ _).mono ?_); rintro e w1 ⟨rfl, rfl⟩) | ((with_reducible refine g_box rfl ?_); refine eBa H ?_; clear H; intro g_ W_ H) | ((with_reducible refine g_load rfl ?_); refine eL1 H ?_))
    (with_reducible refine g_draw ?_)
    try simp only [Act.put, List.setIfInBounds_toArray, List.set_cons_succ, List.set_cons_zero]
    refine F_begin (ls := #[false, false, false, false, false, false, false, false, false]) (by kernel_rfl) rfl (by kernel_rfl) ?_
    have H_ := H.drew
    (clear H; have H := H_; clear H_)
    refine T_go [(0, 0, 34), (0, 1, 35), (0, 2, 36), (0, 3, 37), (1, 4, 38), (0, 5, 39), (0, 6, 4), (0, 7, 5), (0, 8, 6)] ?_; (repeat (first | (refine' T_pure _ rfl rfl (by kernel_rfl) (Nat.le_of_ble_eq_true (by kernel_rfl)) (fun w2_ K_ hK_ => ?_) ?_; rotate_left 1; focus ((conv => (arg 4; arg 1; whnf)); (repeat (first | exact hK_ rfl | (go_big_may; (first | (go_at_call 180; (with_reducible refine (spec_Addr _ _).mono ?_); rintro e w1 ⟨rfl, rfl⟩) | (go_at_call 191; (with_reducible refine (spec_Byte _ _).mono ?_); rintro e w1 ⟨rfl, rfl⟩) | ((with_reducible refine g_load rfl ?_); refine eL1 H ?_))) | go_step | go_guarded | go_upon | dsimp only)); done)) | (refine' T_read _ rfl rfl (by kernel_rfl) (Nat.le_of_ble_eq_true (by kernel_rfl)) (fun K_ hK_ => ?_) ?_; rotate_left 1; focus ((conv => (arg 4; arg 1; whnf)); (repeat (first | exact hK_ rfl | (go_big_may; (first | (go_at_call 180; (with_reducible refine (spec_Addr _ _).mono ?_); rintro e w1 ⟨rfl, rfl⟩) | (go_at_call 191; (with_reducible refine (spec_Byte _ _).mono ?_); rintro e w1 ⟨rfl, rfl⟩) | ((with_reducible refine g_load rfl ?_); refine eL1 H ?_))) | go_step | go_guarded | go_upon | dsimp only)); done)))); refine T_end ?_
    refine F_done (by kernel_rfl) ?_
    go_wp2_with (first | ((with_reducible refine g_box rfl ?_); refine eBa H ?_; clear H; intro g_ W_ H) | ((with_reducible refine g_load rfl ?_); refine eL1 H ?_))
    refine' back3 Tryz.results167 ?_ ?_ ?_ rfl ⟨?_, H.below⟩; rotate_left 3; exact rvA; exact rvA; exact rvA
    rfl
  · have ha : accA ⟨op, arg⟩ c = 0 := by simp [accA, h3]
    have hv : accV ⟨op, arg⟩ c = 0 := by simp [accV, h3]
    rw [ha, hv, h3]
    clear ha hv
    have hk := h3
    clear h3
    go_enter Tryz.func167, Tryz.ntmps167
    go_wp2_with (first | (go_at_call 212; (with_reducible refine (spec_OpAccess _ _).mono ?_); rintro e w1 ⟨rfl, rfl⟩; rw [hk]) | (go_at_call 180; (with_reducible refine (spec_Addr _ _).mono ?_); rintro e w1 ⟨rfl, rfl⟩) | (go_at_call 191; (with_reducible refine (spec_Byte _ _).mono ?_); rintro e w1 ⟨rfl, rfl⟩) | ((with_reducible refine g_box rfl ?_); refine eBa H ?_; clear H; intro g_ W_ H) | ((with_reducible refine g_load rfl ?_); refine eL1 H ?_))
    refine' back3 Tryz.results167 ?_ ?_ ?_ rfl ⟨?_, H.below⟩; rotate_left 3; exact rvA; exact rvA; exact rvA
    rfl
end Go.Proofs.YtjgggmcnbdjdjaaGreat.C

