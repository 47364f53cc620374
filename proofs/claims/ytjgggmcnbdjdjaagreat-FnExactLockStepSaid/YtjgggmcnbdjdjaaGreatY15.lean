/- The stack. (written by ygen2.py) -/
import Derived.Test.YtjgggmcnbdjdjaaGreatY7
namespace Go.Proofs.YtjgggmcnbdjdjaaGreat.C
open Go.RowKit Go.Proofs.YtjgggmcnbdjdjaaGreat.K Go.Proofs.YtjgggmcnbdjdjaaGreat.B
attribute [local go_sem] max2_int min2_int max_two min_two i64_and255 i64_and65535 i64_and1
set_option maxRecDepth 20000
set_option linter.unusedVariables false
set_option linter.unusedSimpArgs false
set_option maxRecDepth 20000
def CpuD.dn (c : CpuD) : CpuD := ⟨c.a, c.x, (c.s - 1) % 256, c.pc, c.z, c.n, c.c, c.i⟩
def CpuD.up (c : CpuD) : CpuD := ⟨c.a, c.x, (c.s + 1) % 256, c.pc, c.z, c.n, c.c, c.i⟩
def MemD.push (x : MemD) (c : CpuD) (v : Int) : MemD := ⟨x.ram.set (256 + c.s).toNat (v % 256), x.bank⟩
def MemD.top (x : MemD) (c : CpuD) : Int := rd x.ram (256 + (c.s + 1) % 256).toNat
theorem MemD.push_len (x : MemD) (c : CpuD) (v : Int) : (x.push c v).ram.length = x.ram.length := by simp [MemD.push]
theorem MemD.push_at {ram : List Int} {bank a x pc : Int} {k j : Nat} {z n cc i : Bool} (v : Int) (hj : 256 + (k : Int) = (j : Int)) : MemD.push ⟨ram, bank⟩ ⟨a, x, (k : Int), pc, z, n, cc, i⟩ v = ⟨ram.set j (v % 256), bank⟩ := by
  unfold MemD.push
  simp only [hj, Int.toNat_natCast]
theorem CpuD.dn_s (c : CpuD) : 0 ≤ c.dn.s ∧ c.dn.s ≤ 255 := by unfold CpuD.dn; simp only; omega
theorem CpuD.up_s (c : CpuD) : 0 ≤ c.up.s ∧ c.up.s ≤ 255 := by unfold CpuD.up; simp only; omega
set_option maxHeartbeats 8000000 in
theorem impl_push_L (x : MemD) (q : MemP) (c : CpuD) (v0 v1 : Value) (zs : List Value) (v : Int) (g : Nat) (w : World) (hH : Hol w [Ast.blk g (v0 :: v1 :: .slice q.ram.A x.ram.length q.ram.c :: .int .i64 x.bank :: .int .i64 c.a :: .int .i64 c.x :: .int .i64 c.s :: .int .i64 c.pc :: .bool c.z :: .bool c.n :: .bool c.c :: .bool c.i :: zs) 49, intsA q.ram x.ram]) (hlen0 : x.ram.length = 512) (hs : 0 ≤ c.s ∧ c.s ≤ 255) : Calls Tryz.prog 227 #[.pointer (some ⟨g, 2, none⟩), .pointer (some ⟨g, 4, none⟩), .int .i64 v] w fun e w' => e = .returned (.tuple #[]) ∧ St w ([Ast.blk g (v0 :: v1 :: .slice q.ram.A x.ram.length q.ram.c :: .int .i64 x.bank :: .int .i64 c.a :: .int .i64 c.x :: .int .i64 c.s :: .int .i64 c.pc :: .bool c.z :: .bool c.n :: .bool c.c :: .bool c.i :: zs) 49, intsA q.ram x.ram].flatMap Ast.fp) w' [Ast.blk g (v0 :: v1 :: .slice q.ram.A (x.push c v).ram.length q.ram.c :: .int .i64 (x.push c v).bank :: .int .i64 (c.dn).a :: .int .i64 (c.dn).x :: .int .i64 (c.dn).s :: .int .i64 (c.dn).pc :: .bool (c.dn).z :: .bool (c.dn).n :: .bool (c.dn).c :: .bool (c.dn).i :: zs) 49, intsA q.ram (x.push c v).ram] := by
  have H := hH.st
  obtain ⟨gr, hA, hc⟩ := own_some (H.get (x := intsA q.ram x.ram) pkA) (by omega)
  obtain ⟨⟨A1, c1⟩⟩ := q
  obtain ⟨ram, bank⟩ := x
  obtain ⟨ca, cx, s, pc, cz, cn, cc, ci⟩ := c
  simp only at hA hc hlen0 hs H ⊢
  subst hA
  have hlen : ram.length = 512 := hlen0
  have hc1 : 512 ≤ c1 := by omega
  clear hH hc hlen0
  generalize hF : List.flatMap Ast.fp _ = F at H ⊢
  clear hF
  obtain ⟨k, rfl⟩ : ∃ k : Nat, s = (k : Int) := ⟨s.toNat, by omega⟩
  have hk : k < 256 := by omega
  clear hs
  obtain ⟨j, hj⟩ : ∃ j : Nat, 256 + (k : Int) = (j : Int) := ⟨256 + k, by omega⟩
  have hm_ : (k : Int) % 256 = (k : Int) := by omega
  rw [MemD.push_at v hj]
  have hlB : ((ram.length : Int) != 512) = false := by simp [hlen]
  have hjl : j < ram.length := by omega
  have HL := Lib.hid hlen
  clear hlen
  go_enter Tryz.func227, Tryz.ntmps227
  go_upto_region 1 with (first | ((with_reducible refine g_load rfl ?_); refine eL1 H ?_) | ((with_reducible refine g_store rfl ?_); refine eSi H ?_; clear H; intro W_ H))
  (with_reducible refine g_draw ?_)
  try simp only [Act.put, List.setIfInBounds_toArray, List.set_cons_succ, List.set_cons_zero]
  refine F_begin (ls := #[false, false, false, false, false, false, false, false, false, false, false, false, false, false]) (by kernel_rfl) rfl (by kernel_rfl) ?_
  have H_ := H.drew
  (clear H; have H := H_; clear H_)
  refine T_go [(0, 0, 12), (0, 1, 13), (0, 2, 14), (1, 3, 15), (0, 4, 16), (0, 5, 17), (0, 6, 18), (1, 7, 19), (0, 8, 20), (0, 9, 21), (0, 10, 22), (0, 11, 23), (0, 12, 24)] ?_; (repeat (first | (refine' T_pure _ rfl rfl (by kernel_rfl) (Nat.le_of_ble_eq_true (by kernel_rfl)) (fun w2_ K_ hK_ => ?_) ?_; rotate_left 1; focus ((conv => (arg 4; arg 1; whnf)); (repeat (first | exact hK_ rfl | (go_big_may; (first | (go_at_call 192; (with_reducible refine (impl_Byte _ _).mono ?_); rintro e w1 ⟨rfl, rfl⟩) | ((with_reducible refine g_load rfl ?_); refine eL1 H ?_))) | go_step | go_guarded | go_upon | dsimp only)); done)) | (refine' T_read _ rfl rfl (by kernel_rfl) (Nat.le_of_ble_eq_true (by kernel_rfl)) (fun K_ hK_ => ?_) ?_; rotate_left 1; focus ((conv => (arg 4; arg 1; whnf)); (repeat (first | exact hK_ rfl | (go_big_may; (first | (go_at_call 192; (with_reducible refine (impl_Byte _ _).mono ?_); rintro e w1 ⟨rfl, rfl⟩) | ((with_reducible refine g_load rfl ?_); refine eL1 H ?_))) | go_step | go_guarded | go_upon | dsimp only)); done)))); refine T_end ?_
  refine F_eA (ls' := #[true, true, true, true, true, true, true, true, true, true, true, true, true, true]) (pend' := []) 13 ?_; intro K_ hK_; (conv => (arg 4; arg 1; whnf)); (repeat (first | refine hK_ _ _ rfl ?_ ?_ | (go_big_may; (first | ((with_reducible refine g_load rfl ?_); refine eL1 H ?_) | ((with_reducible refine g_store rfl ?_); refine' ev_store_own (v := .int _ _) H rfl rfl rfl rfl rfl ?_ ?_ ?_ ?_ ?_ ?_ ?_; rotate_left 8; (focus exact pkA); (focus exact szT rfl); (focus rfl); (focus (rw [nums_length]; omega)); (focus rfl); (focus exact nums_set ram j _ (by omega)); intro W_ H_; rw [own_set] at H_; (clear H; have H := H_; clear H_)) | ((with_reducible refine g_store rfl ?_); refine eSi H ?_; clear H; intro W_ H))) | go_step | go_guarded | go_upon | dsimp only)); exact kept_nil
  refine F_done (by kernel_rfl) ?_
  go_wp2_with (first | (go_at_call 192; (with_reducible refine (impl_Byte _ _).mono ?_); rintro e w1 ⟨rfl, rfl⟩) | ((with_reducible refine g_load rfl ?_); refine eL1 H ?_) | ((with_reducible refine g_store rfl ?_); refine eSi H ?_; clear H; intro W_ H))
  have H_ := H.take (xs := [Ast.blk g _ _, intsA ⟨some ⟨gr, 0, none⟩, c1⟩ _]) pksA
  go_end0
  exact ⟨rfl, H_⟩
set_option maxHeartbeats 8000000 in
theorem spec_Push (x : MemD) (q : MemP) (c : CpuD) (v : Int) (w : World) (hx : MemIn w x q) (hlen0 : x.ram.length = 512) (hs : 0 ≤ c.s ∧ c.s ≤ 255) : Calls Tryz.prog 219 #[.agg #[.slice q.ram.A x.ram.length q.ram.c, .int .i64 x.bank], .agg #[.int .i64 c.a, .int .i64 c.x, .int .i64 c.s, .int .i64 c.pc, .bool c.z, .bool c.n, .bool c.c, .bool c.i], .int .i64 v] w fun e w' => ∃ q' : MemP, e = .returned (.tuple #[.agg #[.slice q'.ram.A (x.push c v).ram.length q'.ram.c, .int .i64 (x.push c v).bank], .agg #[.int .i64 (c.dn).a, .int .i64 (c.dn).x, .int .i64 (c.dn).s, .int .i64 (c.dn).pc, .bool (c.dn).z, .bool (c.dn).n, .bool (c.dn).c, .bool (c.dn).i]]) ∧ St w [] w' [intsA q'.ram (x.push c v).ram] := by
  have H := St.nil w []
  obtain ⟨ram, bank⟩ := x
  obtain ⟨ca, cx, s, pc, cz, cn, cc, ci⟩ := c
  simp only at hlen0 hs ⊢
  have hlen : ram.length = 512 := hlen0
  have hlen2 : ram.length ≤ 1048576 := by omega
  clear hlen0
  obtain ⟨k, rfl⟩ : ∃ k : Nat, s = (k : Int) := ⟨s.toNat, by omega⟩
  have hk : k < 256 := by omega
  clear hs
  obtain ⟨j, hj⟩ : ∃ j : Nat, 256 + (k : Int) = (j : Int) := ⟨256 + k, by omega⟩
  have hm_ : (k : Int) % 256 = (k : Int) := by omega
  rw [MemD.push_at v hj]
  have hlB : ((ram.length : Int) != 512) = false := by simp [hlen]
  have hjl : j < ram.length := by omega
  have HL := Lib.hid hlen
  clear hlen
  go_enter Tryz.func219, Tryz.ntmps219
  go_upto_region 2 with (first | (go_at_call 98; (with_reducible refine (spec_l6Copy ⟨ram, bank⟩ q _ (hx.on H) hlen2).mono ?_); rintro e w1 ⟨q1_, rfl, kk⟩; replace H := H.cN kk; clear kk) | ((with_reducible refine g_box rfl ?_); refine eBa H ?_; clear H; intro g_ W_ H) | ((with_reducible refine g_alloc rfl ?_); refine eNw H ?_; clear H; intro g_ W_ H) | ((with_reducible refine g_load rfl ?_); first | refine eL1 H ?_ | refine eLa H ?_) | ((with_reducible refine g_store rfl ?_); (first | refine eSi H ?_ | refine eSa H ?_); clear H; intro W_ H))
  obtain ⟨⟨A1, c1⟩⟩ := q1_
  obtain ⟨gr_, hA, hc⟩ := own_some (H.get (x := intsA ⟨A1, c1⟩ ram) pkA) (by omega)
  simp only at hA hc
  subst hA
  have hc1 : 512 ≤ c1 := by have := HL.out; omega
  clear hc
  go_upto_region 4 with (first | ((with_reducible refine g_box rfl ?_); refine eBa H ?_; clear H; intro g_ W_ H) | ((with_reducible refine g_alloc rfl ?_); refine eNw H ?_; clear H; intro g_ W_ H) | ((with_reducible refine g_load rfl ?_); first | refine eL1 H ?_ | refine eLa H ?_) | ((with_reducible refine g_store rfl ?_); (first | refine eSi H ?_ | refine eSa H ?_); clear H; intro W_ H))
  (with_reducible refine g_draw ?_)
  try simp only [Act.put, List.setIfInBounds_toArray, List.set_cons_succ, List.set_cons_zero]
  refine F_begin (ls := #[false, false, false, false, false, false, false, false, false, false]) (by kernel_rfl) rfl (by kernel_rfl) ?_
  have H_ := H.drew
  (clear H; have H := H_; clear H_)
  refine T_go [(0, 0, 17), (1, 1, 18), (0, 2, 19), (1, 3, 20), (0, 4, 21), (0, 5, 22), (0, 6, 23), (0, 7, 24), (0, 8, 25)] ?_; (repeat (first | (refine' T_pure _ rfl rfl (by kernel_rfl) (Nat.le_of_ble_eq_true (by kernel_rfl)) (fun w2_ K_ hK_ => ?_) ?_; rotate_left 1; focus ((conv => (arg 4; arg 1; whnf)); (repeat (first | exact hK_ rfl | (go_big_may; (first | (go_at_call 191; (with_reducible refine (spec_Byte _ _).mono ?_); rintro e w1 ⟨rfl, rfl⟩) | ((with_reducible refine g_load rfl ?_); first | refine eL1 H ?_ | refine eLa H ?_))) | go_step | go_guarded | go_upon | dsimp only)); done)) | (refine' T_read _ rfl rfl (by kernel_rfl) (Nat.le_of_ble_eq_true (by kernel_rfl)) (fun K_ hK_ => ?_) ?_; rotate_left 1; focus ((conv => (arg 4; arg 1; whnf)); (repeat (first | exact hK_ rfl | (go_big_may; (first | (go_at_call 191; (with_reducible refine (spec_Byte _ _).mono ?_); rintro e w1 ⟨rfl, rfl⟩) | ((with_reducible refine g_load rfl ?_); first | refine eL1 H ?_ | refine eLa H ?_))) | go_step | go_guarded | go_upon | dsimp only)); done)))); refine T_end ?_
  refine F_eA (ls' := #[true, true, true, true, true, true, true, true, true, true]) (pend' := []) 9 ?_; intro K_ hK_; (conv => (arg 4; arg 1; whnf)); (repeat (first | refine hK_ _ _ rfl ?_ ?_ | (go_big_may; (first | ((with_reducible refine g_load rfl ?_); first | refine eL1 H ?_ | refine eLa H ?_) | ((with_reducible refine g_store rfl ?_); refine' ev_store_own (v := .int _ _) H rfl rfl rfl rfl rfl ?_ ?_ ?_ ?_ ?_ ?_ ?_; rotate_left 8; (focus exact pkA); (focus exact szT rfl); (focus rfl); (focus (rw [nums_length]; omega)); (focus rfl); (focus exact nums_set ram j _ (by omega)); intro W_ H_; rw [own_set] at H_; (clear H; have H := H_; clear H_)) | ((with_reducible refine g_store rfl ?_); (first | refine eSi H ?_ | refine eSa H ?_); clear H; intro W_ H))) | go_step | go_guarded | go_upon | dsimp only)); exact kept_nil
  refine F_done (by kernel_rfl) ?_
  go_upto_region 6 with (first | (go_at_call 191; (with_reducible refine (spec_Byte _ _).mono ?_); rintro e w1 ⟨rfl, rfl⟩) | ((with_reducible refine g_box rfl ?_); refine eBa H ?_; clear H; intro g_ W_ H) | ((with_reducible refine g_alloc rfl ?_); refine eNw H ?_; clear H; intro g_ W_ H) | ((with_reducible refine g_load rfl ?_); first | refine eL1 H ?_ | refine eLa H ?_) | ((with_reducible refine g_store rfl ?_); (first | refine eSi H ?_ | refine eSa H ?_); clear H; intro W_ H))
  (with_reducible refine g_draw ?_)
  try simp only [Act.put, List.setIfInBounds_toArray, List.set_cons_succ, List.set_cons_zero]
  refine F_begin (ls := #[false, false, false, false]) (by kernel_rfl) rfl (by kernel_rfl) ?_
  have H_ := H.drew
  (clear H; have H := H_; clear H_)
  refine T_go [(1, 0, 31), (1, 1, 32)] ?_; (repeat (refine T_rA ?_)); refine T_end ?_
  refine F_eA (ls' := #[true, true, true, false]) (pend' := [1]) 2 ?_; intro K_ hK_; (conv => (arg 4; arg 1; whnf)); (repeat (first | refine hK_ _ _ rfl ?_ ?_ | (go_big_may; (first | ((with_reducible refine g_load rfl ?_); first | refine eL1 H ?_ | refine eLa H ?_) | ((with_reducible refine g_store rfl ?_); (first | refine eSi H ?_ | refine eSa H ?_); clear H; intro W_ H))) | go_step | go_guarded | go_upon | dsimp only)); (focus (refine kept_cA 1 32 ?_; exact kept_nil))
  refine F_eA (ls' := #[true, true, true, true]) (pend' := []) 3 ?_; intro K_ hK_; (conv => (arg 4; arg 1; whnf)); (repeat (first | refine hK_ _ _ rfl ?_ ?_ | (go_big_may; (first | ((with_reducible refine g_load rfl ?_); first | refine eL1 H ?_ | refine eLa H ?_) | ((with_reducible refine g_store rfl ?_); (first | refine eSi H ?_ | refine eSa H ?_); clear H; intro W_ H))) | go_step | go_guarded | go_upon | dsimp only)); exact kept_nil
  refine F_done (by kernel_rfl) ?_
  go_wp2_with (first | ((with_reducible refine g_box rfl ?_); refine eBa H ?_; clear H; intro g_ W_ H) | ((with_reducible refine g_alloc rfl ?_); refine eNw H ?_; clear H; intro g_ W_ H) | ((with_reducible refine g_load rfl ?_); first | refine eL1 H ?_ | refine eLa H ?_) | ((with_reducible refine g_store rfl ?_); (first | refine eSi H ?_ | refine eSa H ?_); clear H; intro W_ H))
  have H_ := H.take (xs := [Ast.blk _ _ _, Ast.blk _ _ _, intsA ⟨some ⟨gr_, 0, none⟩, c1⟩ _]) pksA
  refine' back2 Tryz.results219 ?_ ?_ rfl ⟨⟨⟨some ⟨gr_, 0, none⟩, c1⟩⟩, ?_, H.take (xs := [intsA ⟨some ⟨gr_, 0, none⟩, c1⟩ _]) pksA⟩; rotate_left 2; exact rvA; exact rvA
  simp [CpuD.dn]
set_option maxHeartbeats 8000000 in
theorem impl_pull_L (x : MemD) (q : MemP) (c : CpuD) (v0 v1 : Value) (zs : List Value) (g : Nat) (w : World) (hH : Hol w [Ast.blk g (v0 :: v1 :: .slice q.ram.A x.ram.length q.ram.c :: .int .i64 x.bank :: .int .i64 c.a :: .int .i64 c.x :: .int .i64 c.s :: .int .i64 c.pc :: .bool c.z :: .bool c.n :: .bool c.c :: .bool c.i :: zs) 49, intsA q.ram x.ram]) (hlen0 : x.ram.length = 512) (hs : 0 ≤ c.s ∧ c.s ≤ 255) : Calls Tryz.prog 248 #[.pointer (some ⟨g, 2, none⟩), .pointer (some ⟨g, 4, none⟩)] w fun e w' => e = .returned (.int .i64 (x.top c)) ∧ St w ([Ast.blk g (v0 :: v1 :: .slice q.ram.A x.ram.length q.ram.c :: .int .i64 x.bank :: .int .i64 c.a :: .int .i64 c.x :: .int .i64 c.s :: .int .i64 c.pc :: .bool c.z :: .bool c.n :: .bool c.c :: .bool c.i :: zs) 49, intsA q.ram x.ram].flatMap Ast.fp) w' [Ast.blk g (v0 :: v1 :: .slice q.ram.A x.ram.length q.ram.c :: .int .i64 x.bank :: .int .i64 (c.up).a :: .int .i64 (c.up).x :: .int .i64 (c.up).s :: .int .i64 (c.up).pc :: .bool (c.up).z :: .bool (c.up).n :: .bool (c.up).c :: .bool (c.up).i :: zs) 49, intsA q.ram x.ram] := by
  have H := hH.st
  obtain ⟨gr, hA, hc⟩ := own_some (H.get (x := intsA q.ram x.ram) pkA) (by omega)
  obtain ⟨⟨A1, c1⟩⟩ := q
  obtain ⟨ram, bank⟩ := x
  obtain ⟨ca, cx, s, pc, cz, cn, cc, ci⟩ := c
  simp only at hA hc hlen0 hs H ⊢
  subst hA
  have hlen : ram.length = 512 := hlen0
  have hc1 : 512 ≤ c1 := by omega
  clear hH hc hlen0
  generalize hF : List.flatMap Ast.fp _ = F at H ⊢
  clear hF
  obtain ⟨k, hk⟩ : ∃ k : Nat, (s + 1) % 256 = (k : Int) := ⟨((s + 1) % 256).toNat, by omega⟩
  obtain ⟨j, hj⟩ : ∃ j : Nat, 256 + (k : Int) = (j : Int) := ⟨256 + k, by omega⟩
  have hjl : j < ram.length := by omega
  have ht : MemD.top ⟨ram, bank⟩ ⟨ca, cx, s, pc, cz, cn, cc, ci⟩ = rd ram j := by
    unfold MemD.top
    simp only [hk, hj, Int.toNat_natCast]
  rw [ht]
  clear ht
  have hlB : ((ram.length : Int) != 512) = false := by simp [hlen]
  have HL := Lib.hid hlen
  clear hlen
  go_enter Tryz.func248, Tryz.ntmps248
  go_upto_region 4 with (first | (go_at_call 192; (with_reducible refine (impl_Byte _ _).mono ?_); rintro e w1 ⟨rfl, rfl⟩) | ((with_reducible refine g_load rfl ?_); refine eL1 H ?_) | ((with_reducible refine g_store rfl ?_); refine eSi H ?_; clear H; intro W_ H))
  (with_reducible refine g_draw ?_)
  try simp only [Act.put, List.setIfInBounds_toArray, List.set_cons_succ, List.set_cons_zero]
  refine F_begin (ls := #[false, false, false, false, false, false, false, false, false, false, false, false]) (by kernel_rfl) rfl (by kernel_rfl) ?_
  have H_ := H.drew
  (clear H; have H := H_; clear H_)
  refine T_go [(0, 0, 20), (0, 1, 21), (0, 2, 22), (1, 3, 23), (0, 4, 24), (0, 5, 25), (0, 6, 26), (1, 7, 27), (0, 8, 28), (0, 9, 29), (1, 10, 30), (0, 11, 4)] ?_; (repeat (first | refine T_pA ?_ | (refine' T_read _ rfl rfl (by kernel_rfl) (Nat.le_of_ble_eq_true (by kernel_rfl)) (fun K_ hK_ => ?_) ?_; rotate_left 1; focus ((conv => (arg 4; arg 1; whnf)); (repeat (first | exact hK_ rfl | (go_big_may; (first | ((with_reducible refine g_load rfl ?_); refine ev_load_in_one rfl rfl rfl (oneT rfl) (ints_at3 (H.get (x := intsA ⟨some ⟨gr, 0, none⟩, c1⟩ ram) pkA) hjl) ?_) | ((with_reducible refine g_load rfl ?_); refine eL1 H ?_))) | go_step | go_guarded | go_upon | dsimp only)); done)))); refine T_end ?_
  refine F_done (by kernel_rfl) ?_
  go_wp2_with (first | ((with_reducible refine g_load rfl ?_); refine eL1 H ?_) | ((with_reducible refine g_store rfl ?_); refine eSi H ?_; clear H; intro W_ H))
  have H_ := H.take (xs := [Ast.blk g _ _, intsA ⟨some ⟨gr, 0, none⟩, c1⟩ _]) pksA
  refine' back1 Tryz.results248 ?_ rfl ⟨?_, ?_⟩; rotate_left 1; exact rvA
  · rfl
  · simpa [CpuD.up, hk] using H_
set_option maxHeartbeats 8000000 in
theorem spec_Pull (x : MemD) (q : MemP) (c : CpuD) (w : World) (hx : MemIn w x q) (hlen0 : x.ram.length = 512) (hb8 : allB 0 255 x.ram = true) (hs : 0 ≤ c.s ∧ c.s ≤ 255) : Calls Tryz.prog 222 #[.agg #[.slice q.ram.A x.ram.length q.ram.c, .int .i64 x.bank], .agg #[.int .i64 c.a, .int .i64 c.x, .int .i64 c.s, .int .i64 c.pc, .bool c.z, .bool c.n, .bool c.c, .bool c.i]] w fun e w' => e = .returned (.tuple #[.agg #[.int .i64 (c.up).a, .int .i64 (c.up).x, .int .i64 (c.up).s, .int .i64 (c.up).pc, .bool (c.up).z, .bool (c.up).n, .bool (c.up).c, .bool (c.up).i], .int .i64 (x.top c)]) ∧ Below w.heap.size w w' := by
  have H := St.nil w []
  obtain ⟨ram, bank⟩ := x
  obtain ⟨⟨A1, c1⟩⟩ := q
  obtain ⟨ca, cx, s, pc, cz, cn, cc, ci⟩ := c
  simp only at hlen0 hs hb8 ⊢
  have hlen : ram.length = 512 := hlen0
  clear hlen0
  obtain ⟨ad, hA, hcl⟩ := hx.ram.2.2 (by simp only; omega)
  clear hcl
  simp only at hA
  subst hA
  obtain ⟨k, hk⟩ : ∃ k : Nat, (s + 1) % 256 = (k : Int) := ⟨((s + 1) % 256).toNat, by omega⟩
  obtain ⟨j, hj⟩ : ∃ j : Nat, 256 + (k : Int) = (j : Int) := ⟨256 + k, by omega⟩
  have hjl : j < ram.length := by omega
  have ht : MemD.top ⟨ram, bank⟩ ⟨ca, cx, s, pc, cz, cn, cc, ci⟩ = rd ram j := by
    unfold MemD.top
    simp only [hk, hj, Int.toNat_natCast]
  rw [ht]
  clear ht
  have hlB : ((ram.length : Int) != 512) = false := by simp [hlen]
  have HL := Lib.hid hlen
  clear hlen
  have hby := byte_rd hb8 hjl
  clear hb8
  have HM := Lib.hid (show rd ram j % 256 = rd ram j by omega)
  clear hby
  have hx2 : InI w (some ad) c1 ram := hx.ram
  clear hx
  go_enter Tryz.func222, Tryz.ntmps222
  go_upto_region 4 with (first | (go_at_call 191; (with_reducible refine (spec_Byte _ _).mono ?_); rintro e w1 ⟨rfl, rfl⟩) | ((with_reducible refine g_box rfl ?_); refine eBa H ?_; clear H; intro g_ W_ H) | ((with_reducible refine g_alloc rfl ?_); refine eNw H ?_; clear H; intro g_ W_ H) | ((with_reducible refine g_load rfl ?_); first | refine eL1 H ?_ | refine eLa H ?_) | ((with_reducible refine g_store rfl ?_); (first | refine eSi H ?_ | refine eSa H ?_); clear H; intro W_ H))
  (with_reducible refine g_draw ?_)
  try simp only [Act.put, List.setIfInBounds_toArray, List.set_cons_succ, List.set_cons_zero]
  refine F_begin (ls := #[false, false, false, false, false, false, false, false, false, false, false]) (by kernel_rfl) rfl (by kernel_rfl) ?_
  have H_ := H.drew
  (clear H; have H := H_; clear H_)
  refine T_go [(1, 0, 16), (0, 1, 17), (1, 2, 18), (0, 3, 19), (1, 4, 20), (0, 5, 21), (0, 6, 22), (1, 7, 23), (0, 8, 24)] ?_; (repeat (first | (refine' T_pure _ rfl rfl (by kernel_rfl) (Nat.le_of_ble_eq_true (by kernel_rfl)) (fun w2_ K_ hK_ => ?_) ?_; rotate_left 1; focus ((conv => (arg 4; arg 1; whnf)); (repeat (first | exact hK_ rfl | (go_big_may; (first | ((with_reducible refine g_load rfl ?_); refine ev_load_in_one rfl rfl rfl (oneT rfl) (int_at_ hx2 H hjl) ?_) | (go_at_call 191; (with_reducible refine (spec_Byte _ _).mono ?_); rintro e w1 ⟨rfl, rfl⟩; rw [HM.out]) | ((with_reducible refine g_load rfl ?_); first | refine eL1 H ?_ | refine eLa H ?_) | ((with_reducible refine g_store rfl ?_); (first | refine eSi H ?_ | refine eSa H ?_); clear H; intro W_ H))) | go_step | go_guarded | go_upon | dsimp only)); done)) | (refine' T_read _ rfl rfl (by kernel_rfl) (Nat.le_of_ble_eq_true (by kernel_rfl)) (fun K_ hK_ => ?_) ?_; rotate_left 1; focus ((conv => (arg 4; arg 1; whnf)); (repeat (first | exact hK_ rfl | (go_big_may; (first | ((with_reducible refine g_load rfl ?_); refine ev_load_in_one rfl rfl rfl (oneT rfl) (int_at_ hx2 H hjl) ?_) | (go_at_call 191; (with_reducible refine (spec_Byte _ _).mono ?_); rintro e w1 ⟨rfl, rfl⟩; rw [HM.out]) | ((with_reducible refine g_load rfl ?_); first | refine eL1 H ?_ | refine eLa H ?_) | ((with_reducible refine g_store rfl ?_); (first | refine eSi H ?_ | refine eSa H ?_); clear H; intro W_ H))) | go_step | go_guarded | go_upon | dsimp only)); done)))); refine T_end ?_
  refine F_eA (ls' := #[true, true, true, true, true, true, true, true, true, true, false]) (pend' := []) 9 ?_; intro K_ hK_; (conv => (arg 4; arg 1; whnf)); (repeat (first | refine hK_ _ _ rfl ?_ ?_ | (go_big_may; (first | ((with_reducible refine g_load rfl ?_); first | refine eL1 H ?_ | refine eLa H ?_) | ((with_reducible refine g_store rfl ?_); (first | refine eSi H ?_ | refine eSa H ?_); clear H; intro W_ H))) | go_step | go_guarded | go_upon | dsimp only)); exact kept_nil
  refine T_go [(0, 10, 5)] ?_; (repeat (refine T_pA ?_)); refine T_end ?_
  refine F_done (by kernel_rfl) ?_
  go_wp2_with (first | ((with_reducible refine g_box rfl ?_); refine eBa H ?_; clear H; intro g_ W_ H) | ((with_reducible refine g_alloc rfl ?_); refine eNw H ?_; clear H; intro g_ W_ H) | ((with_reducible refine g_load rfl ?_); first | refine eL1 H ?_ | refine eLa H ?_) | ((with_reducible refine g_store rfl ?_); (first | refine eSi H ?_ | refine eSa H ?_); clear H; intro W_ H))
  refine' back2 Tryz.results222 ?_ ?_ rfl ⟨?_, H.below⟩; rotate_left 2; exact rvA; exact rvA
  simp [CpuD.up, hk]
end Go.Proofs.YtjgggmcnbdjdjaaGreat.C

/- The program counter on the stack; interrupts. (written by ygen2.py) -/
namespace Go.Proofs.YtjgggmcnbdjdjaaGreat.C
open Go.RowKit Go.Proofs.YtjgggmcnbdjdjaaGreat.K Go.Proofs.YtjgggmcnbdjdjaaGreat.B
attribute [local go_sem] max2_int min2_int max_two min_two i64_and255 i64_and65535 i64_and1
set_option maxRecDepth 20000
set_option linter.unusedVariables false
set_option linter.unusedSimpArgs false
set_option maxRecDepth 20000
def hiPc (p : Int) : Int := p / 256
def MemD.pushPc (x : MemD) (c : CpuD) : MemD := (x.push c (hiPc c.pc)).push c.dn c.pc
theorem MemD.pushPc_len (x : MemD) (c : CpuD) : (x.pushPc c).ram.length = x.ram.length := by simp [MemD.pushPc, MemD.push]
set_option maxHeartbeats 8000000 in
theorem impl_pushPc_L (x : MemD) (q : MemP) (c : CpuD) (v0 v1 : Value) (zs : List Value) (g : Nat) (w : World) (hH : Hol w [Ast.blk g (v0 :: v1 :: .slice q.ram.A x.ram.length q.ram.c :: .int .i64 x.bank :: .int .i64 c.a :: .int .i64 c.x :: .int .i64 c.s :: .int .i64 c.pc :: .bool c.z :: .bool c.n :: .bool c.c :: .bool c.i :: zs) 49, intsA q.ram x.ram]) (hlen0 : x.ram.length = 512) (hs : 0 ≤ c.s ∧ c.s ≤ 255) : Calls Tryz.prog 226 #[.pointer (some ⟨g, 2, none⟩), .pointer (some ⟨g, 4, none⟩)] w fun e w' => e = .returned (.tuple #[]) ∧ St w ([Ast.blk g (v0 :: v1 :: .slice q.ram.A x.ram.length q.ram.c :: .int .i64 x.bank :: .int .i64 c.a :: .int .i64 c.x :: .int .i64 c.s :: .int .i64 c.pc :: .bool c.z :: .bool c.n :: .bool c.c :: .bool c.i :: zs) 49, intsA q.ram x.ram].flatMap Ast.fp) w' [Ast.blk g (v0 :: v1 :: .slice q.ram.A (x.pushPc c).ram.length q.ram.c :: .int .i64 (x.pushPc c).bank :: .int .i64 (c.dn.dn).a :: .int .i64 (c.dn.dn).x :: .int .i64 (c.dn.dn).s :: .int .i64 (c.dn.dn).pc :: .bool (c.dn.dn).z :: .bool (c.dn.dn).n :: .bool (c.dn.dn).c :: .bool (c.dn.dn).i :: zs) 49, intsA q.ram (x.pushPc c).ram] := by
  have H := hH.st
  generalize hF : List.flatMap Ast.fp _ = F at H ⊢
  clear hF hH
  have HL := Lib.hid hlen0
  have HS := Lib.hid hs
  clear hlen0 hs
  go_enter Tryz.func226, Tryz.ntmps226
  go_wp2_with (first | (go_at_call 227; (with_reducible refine (impl_push_L x q c v0 v1 zs _ g _ (St.holL (H.picks (xs := [Ast.blk g _ _, intsA q.ram _]) pksA)) HL.out HS.out).mono ?_); rintro e w1 ⟨rfl, kk⟩; replace H := St.uN (H.picks (xs := [Ast.blk g _ _, intsA q.ram _]) pksA) kk; clear kk) | (go_at_call 227; (with_reducible refine (impl_push_L (x.push c _) q c.dn v0 v1 zs _ g _ (St.holL (H.picks (xs := [Ast.blk g _ _, intsA q.ram _]) pksA)) (by rw [MemD.push_len]; exact HL.out) (CpuD.dn_s c)).mono ?_); rintro e w1 ⟨rfl, kk⟩; replace H := St.uN (H.picks (xs := [Ast.blk g _ _, intsA q.ram _]) pksA) kk; clear kk) | ((with_reducible refine g_load rfl ?_); refine eL1 H ?_))
  have H_ := H.take (xs := [Ast.blk g _ _, intsA q.ram _]) pksA
  go_end0
  exact ⟨rfl, H_⟩
def MemD.ent (x : MemD) (c : CpuD) : MemD := (x.pushPc c).push c.dn.dn c.flags
def CpuD.ent (c : CpuD) (tp : Int) : CpuD := ⟨c.a, c.x, c.dn.dn.dn.s, tp, c.z, c.n, c.c, true⟩
def CpuD.back (c : CpuD) (x : MemD) : CpuD := c.up.up.setPc (joinB (x.top c) (x.top c.up))
theorem push_ok {x : MemD} {m : ImageD} {c : CpuD} {v : Int} (h : x.ok m = true) : (x.push c v).ok m = true := by
  simp only [MemD.ok, MemD.push, Bool.and_eq_true, List.length_set] at h ⊢
  exact ⟨h.1, h.2.1, allB_set h.2.2.1 _ (by omega) (by omega), h.2.2.2⟩
theorem ent_ok {x : MemD} {m : ImageD} {c : CpuD} (h : x.ok m = true) : (x.ent c).ok m = true := push_ok (push_ok (push_ok h))
theorem peek_6 {x y : MemD} {m : ImageD} {a : Int} (h : regR a = 6) : x.peek m a = y.peek m a := by simp [MemD.peek, h]
def MemD.vecP (x : MemD) (m : ImageD) (v : Int) : Int := joinB (x.peek m v) (x.peek m (v + 1))
set_option maxHeartbeats 8000000 in
theorem impl_back_L (x : MemD) (q : MemP) (c : CpuD) (v0 v1 : Value) (zs : List Value) (g : Nat) (w : World) (hH : Hol w [Ast.blk g (v0 :: v1 :: .slice q.ram.A x.ram.length q.ram.c :: .int .i64 x.bank :: .int .i64 c.a :: .int .i64 c.x :: .int .i64 c.s :: .int .i64 c.pc :: .bool c.z :: .bool c.n :: .bool c.c :: .bool c.i :: zs) 49, intsA q.ram x.ram]) (hlen0 : x.ram.length = 512) (hs : 0 ≤ c.s ∧ c.s ≤ 255) : Calls Tryz.prog 247 #[.pointer (some ⟨g, 2, none⟩), .pointer (some ⟨g, 4, none⟩)] w fun e w' => e = .returned (.tuple #[]) ∧ St w ([Ast.blk g (v0 :: v1 :: .slice q.ram.A x.ram.length q.ram.c :: .int .i64 x.bank :: .int .i64 c.a :: .int .i64 c.x :: .int .i64 c.s :: .int .i64 c.pc :: .bool c.z :: .bool c.n :: .bool c.c :: .bool c.i :: zs) 49, intsA q.ram x.ram].flatMap Ast.fp) w' [Ast.blk g (v0 :: v1 :: .slice q.ram.A x.ram.length q.ram.c :: .int .i64 x.bank :: .int .i64 (c.back x).a :: .int .i64 (c.back x).x :: .int .i64 (c.back x).s :: .int .i64 (c.back x).pc :: .bool (c.back x).z :: .bool (c.back x).n :: .bool (c.back x).c :: .bool (c.back x).i :: zs) 49, intsA q.ram x.ram] := by
  have H := hH.st
  generalize hF : List.flatMap Ast.fp _ = F at H ⊢
  clear hF hH
  have HL := Lib.hid hlen0
  have HS := Lib.hid hs
  clear hlen0 hs
  go_enter Tryz.func247, Tryz.ntmps247
  go_wp2_with (first | (go_at_call 248; (with_reducible refine (impl_pull_L x q c v0 v1 zs g _ (St.holL (H.picks (xs := [Ast.blk g _ _, intsA q.ram _]) pksA)) HL.out HS.out).mono ?_); rintro e w1 ⟨rfl, kk⟩; replace H := St.uN (H.picks (xs := [Ast.blk g _ _, intsA q.ram _]) pksA) kk; clear kk) | (go_at_call 248; (with_reducible refine (impl_pull_L x q c.up v0 v1 zs g _ (St.holL (H.picks (xs := [Ast.blk g _ _, intsA q.ram _]) pksA)) HL.out (CpuD.up_s c)).mono ?_); rintro e w1 ⟨rfl, kk⟩; replace H := St.uN (H.picks (xs := [Ast.blk g _ _, intsA q.ram _]) pksA) kk; clear kk) | (go_at_call 198; (with_reducible refine (impl_Join _ _ _).mono ?_); rintro e w1 ⟨rfl, rfl⟩) | ((with_reducible refine g_store rfl ?_); refine eSi H ?_; clear H; intro W_ H))
  have H_ := H.take (xs := [Ast.blk g _ _, intsA q.ram _]) pksA
  go_end0
  exact ⟨rfl, H_⟩
set_option maxHeartbeats 8000000 in
theorem impl_enter_L (x : MemD) (q : MemP) (c : CpuD) (tp : Int) (v0 v1 : Value) (zs : List Value) (g : Nat) (w : World) (hH : Hol w [Ast.blk g (v0 :: v1 :: .slice q.ram.A x.ram.length q.ram.c :: .int .i64 x.bank :: .int .i64 c.a :: .int .i64 c.x :: .int .i64 c.s :: .int .i64 c.pc :: .bool c.z :: .bool c.n :: .bool c.c :: .bool c.i :: zs) 49, intsA q.ram x.ram]) (hlen0 : x.ram.length = 512) (hs : 0 ≤ c.s ∧ c.s ≤ 255) : Calls Tryz.prog 199 #[.pointer (some ⟨g, 2, none⟩), .pointer (some ⟨g, 4, none⟩), .int .i64 tp] w fun e w' => e = .returned (.tuple #[]) ∧ St w ([Ast.blk g (v0 :: v1 :: .slice q.ram.A x.ram.length q.ram.c :: .int .i64 x.bank :: .int .i64 c.a :: .int .i64 c.x :: .int .i64 c.s :: .int .i64 c.pc :: .bool c.z :: .bool c.n :: .bool c.c :: .bool c.i :: zs) 49, intsA q.ram x.ram].flatMap Ast.fp) w' [Ast.blk g (v0 :: v1 :: .slice q.ram.A (x.ent c).ram.length q.ram.c :: .int .i64 (x.ent c).bank :: .int .i64 (c.ent tp).a :: .int .i64 (c.ent tp).x :: .int .i64 (c.ent tp).s :: .int .i64 (c.ent tp).pc :: .bool (c.ent tp).z :: .bool (c.ent tp).n :: .bool (c.ent tp).c :: .bool (c.ent tp).i :: zs) 49, intsA q.ram (x.ent c).ram] := by
  have H := hH.st
  generalize hF : List.flatMap Ast.fp _ = F at H ⊢
  clear hF hH
  have HL := Lib.hid hlen0
  have HS := Lib.hid hs
  clear hlen0 hs
  go_enter Tryz.func199, Tryz.ntmps199
  go_wp2_with (first | (go_at_call 226; (with_reducible refine (impl_pushPc_L x q c v0 v1 zs g _ (St.holL (H.picks (xs := [Ast.blk g _ _, intsA q.ram _]) pksA)) HL.out HS.out).mono ?_); rintro e w1 ⟨rfl, kk⟩; replace H := St.uN (H.picks (xs := [Ast.blk g _ _, intsA q.ram _]) pksA) kk; clear kk) | (go_at_call 228; (with_reducible refine (impl_Flags c.dn.dn _).mono ?_); rintro e w1 ⟨rfl, hb⟩; (replace H := H.callB hb; clear hb)) | (go_at_call 227; (with_reducible refine (impl_push_L (x.pushPc c) q c.dn.dn v0 v1 zs _ g _ (St.holL (H.picks (xs := [Ast.blk g _ _, intsA q.ram _]) pksA)) (by rw [MemD.pushPc_len]; exact HL.out) (CpuD.dn_s _)).mono ?_); rintro e w1 ⟨rfl, kk⟩; replace H := St.uN (H.picks (xs := [Ast.blk g _ _, intsA q.ram _]) pksA) kk; clear kk) | ((with_reducible refine g_load rfl ?_); refine eLa H ?_) | ((with_reducible refine g_store rfl ?_); (first | refine eSi H ?_ | refine eSb H ?_); clear H; intro W_ H))
  have H_ := H.take (xs := [Ast.blk g _ _, intsA q.ram _]) pksA
  go_end0
  exact ⟨rfl, H_⟩
set_option maxHeartbeats 8000000 in
theorem spec_l7Back (x : MemD) (q : MemP) (c : CpuD) (w : World) (hx : MemIn w x q) (hlen0 : x.ram.length = 512) (hb8 : allB 0 255 x.ram = true) (hs : 0 ≤ c.s ∧ c.s ≤ 255) : Calls Tryz.prog 221 #[.agg #[.slice q.ram.A x.ram.length q.ram.c, .int .i64 x.bank], .agg #[.int .i64 c.a, .int .i64 c.x, .int .i64 c.s, .int .i64 c.pc, .bool c.z, .bool c.n, .bool c.c, .bool c.i]] w fun e w' => e = .returned (.agg #[.int .i64 (c.back x).a, .int .i64 (c.back x).x, .int .i64 (c.back x).s, .int .i64 (c.back x).pc, .bool (c.back x).z, .bool (c.back x).n, .bool (c.back x).c, .bool (c.back x).i]) ∧ Below w.heap.size w w' := by
  have H := St.nil w []
  have HL := Lib.hid hlen0
  have HS := Lib.hid hs
  have HB := Lib.hid hb8
  clear hlen0 hs hb8
  go_enter Tryz.func221, Tryz.ntmps221
  go_wp2_with (first | (go_at_call 222; (with_reducible refine (spec_Pull x q c _ (hx.on H) HL.out HB.out HS.out).mono ?_); rintro e w1 ⟨rfl, hb⟩; (replace H := H.callB hb; clear hb)) | (go_at_call 222; (with_reducible refine (spec_Pull x q c.up _ (hx.on H) HL.out HB.out (CpuD.up_s c)).mono ?_); rintro e w1 ⟨rfl, hb⟩; (replace H := H.callB hb; clear hb)) | (go_at_call 147; (with_reducible refine (spec_Join _ _ _).mono ?_); rintro e w1 ⟨rfl, rfl⟩) | ((with_reducible refine g_box rfl ?_); refine eBa H ?_; clear H; intro g_ W_ H) | ((with_reducible refine g_alloc rfl ?_); refine eNw H ?_; clear H; intro g_ W_ H) | ((with_reducible refine g_load rfl ?_); refine eLa H ?_) | ((with_reducible refine g_store rfl ?_); (first | refine eSi H ?_ | refine eSa H ?_); clear H; intro W_ H))
  refine' back1 Tryz.results221 ?_ rfl ⟨?_, H.below⟩; rotate_left 1; exact rvA
  rfl
set_option maxHeartbeats 8000000 in
theorem spec_Enter (m : ImageD) (qm : ImageP) (x : MemD) (q : MemP) (c : CpuD) (v : Int) (w : World) (hm : ImageIn w m qm) (hx : MemIn w x q) (hok : x.ok m = true) (hs : 0 ≤ c.s ∧ c.s ≤ 255) (h0 : 0 ≤ v) (h1 : v ≤ 100000) (h6 : regR v = 6) (h7 : regR (v + 1) = 6) : Calls Tryz.prog 193 #[.agg #[.slice qm.banks.s.A m.banks.length qm.banks.s.c], .agg #[.slice q.ram.A x.ram.length q.ram.c, .int .i64 x.bank], .agg #[.int .i64 c.a, .int .i64 c.x, .int .i64 c.s, .int .i64 c.pc, .bool c.z, .bool c.n, .bool c.c, .bool c.i], .int .i64 v] w fun e w' => ∃ q' : MemP, e = .returned (.tuple #[.agg #[.slice q'.ram.A (x.ent c).ram.length q'.ram.c, .int .i64 (x.ent c).bank], .agg #[.int .i64 (c.ent (x.vecP m v)).a, .int .i64 (c.ent (x.vecP m v)).x, .int .i64 (c.ent (x.vecP m v)).s, .int .i64 (c.ent (x.vecP m v)).pc, .bool (c.ent (x.vecP m v)).z, .bool (c.ent (x.vecP m v)).n, .bool (c.ent (x.vecP m v)).c, .bool (c.ent (x.vecP m v)).i]]) ∧ St w [] w' [intsA q'.ram (x.ent c).ram] := by
  have H := St.nil w []
  have HL := Lib.hid (MemD.ok_at hok).2.1
  have HK : Hid ((((x.push c (c.pc / 256)).push c.dn c.dn.pc).push c.dn.dn c.flags).ok m = true) := Lib.hid (push_ok (push_ok (push_ok hok)))
  have HS := Lib.hid hs
  have E1 : Hid ((((x.push c (c.pc / 256)).push c.dn c.dn.pc).push c.dn.dn c.flags).peek m v = x.peek m v) := Lib.hid (peek_6 h6)
  have E2 : Hid ((((x.push c (c.pc / 256)).push c.dn c.dn.pc).push c.dn.dn c.flags).peek m (v + 1) = x.peek m (v + 1)) := Lib.hid (peek_6 h7)
  have hlen2 : x.ram.length ≤ 1048576 := by have := HL.out; omega
  clear hs hok h6 h7
  go_enter Tryz.func193, Tryz.ntmps193
  go_upto_region 7 with (first | (go_at_call 98; (with_reducible refine (spec_l6Copy x q _ (hx.on H) hlen2).mono ?_); rintro e w1 ⟨q1_, rfl, kk⟩; replace H := H.cN kk; clear kk) | (go_at_call 218; (with_reducible refine (spec_Flags c _).mono ?_); rintro e w1 ⟨rfl, hb⟩; (replace H := H.callB hb; clear hb)) | (go_at_call 219; (with_reducible refine (spec_Push x q1_ c _ _ ⟨InI.of (H.get (x := intsA q1_.ram x.ram) pkA)⟩ HL.out HS.out).mono ?_); rintro e w1 ⟨q2_, rfl, kk⟩; replace H := H.cN kk; clear kk) | (go_at_call 219; (with_reducible refine (spec_Push (x.push c (c.pc / 256)) q2_ c.dn _ _ ⟨InI.of (H.get (x := intsA q2_.ram (x.push c (c.pc / 256)).ram) pkA)⟩ (by rw [MemD.push_len]; exact HL.out) (CpuD.dn_s c)).mono ?_); rintro e w1 ⟨q3_, rfl, kk⟩; replace H := H.cN kk; clear kk) | (go_at_call 219; (with_reducible refine (spec_Push ((x.push c (c.pc / 256)).push c.dn c.dn.pc) q3_ c.dn.dn _ _ ⟨InI.of (H.get (x := intsA q3_.ram ((x.push c (c.pc / 256)).push c.dn c.dn.pc).ram) pkA)⟩ (by rw [MemD.push_len, MemD.push_len]; exact HL.out) (CpuD.dn_s _)).mono ?_); rintro e w1 ⟨q4_, rfl, kk⟩; replace H := H.cN kk; clear kk) | ((with_reducible refine g_box rfl ?_); refine eBa H ?_; clear H; intro g_ W_ H) | ((with_reducible refine g_alloc rfl ?_); refine eNw H ?_; clear H; intro g_ W_ H) | ((with_reducible refine g_load rfl ?_); first | refine eL1 H ?_ | refine eLa H ?_) | ((with_reducible refine g_store rfl ?_); (first | refine eSi H ?_ | refine eSb H ?_ | refine eSa H ?_); clear H; intro W_ H))
  (with_reducible refine g_draw ?_)
  try simp only [Act.put, List.setIfInBounds_toArray, List.set_cons_succ, List.set_cons_zero]
  refine F_begin (ls := #[false, false, false, false, false, false, false, false, false, false, false, false]) (by kernel_rfl) rfl (by kernel_rfl) ?_
  have H_ := H.drew
  (clear H; have H := H_; clear H_)
  refine T_go [(1, 0, 41), (1, 1, 42), (0, 2, 43), (1, 4, 45), (1, 5, 46), (0, 6, 47), (0, 7, 48)] ?_; (repeat (first | refine T_pA ?_ | refine T_rA ?_)); refine T_end ?_
  refine F_eA (ls' := #[true, true, true, true, true, true, true, true, false, false, false, false]) (pend' := [5, 4]) 3 ?_; intro K_ hK_; (conv => (arg 4; arg 1; whnf)); (repeat (first | refine hK_ _ _ rfl ?_ ?_ | (go_big_may; (first | (go_at_call 148; (with_reducible refine (spec_PeekK m qm (((x.push c (c.pc / 256)).push c.dn c.dn.pc).push c.dn.dn c.flags) q4_ v _ _ (hm.on H) ⟨InI.of (H.get (x := intsA q4_.ram _) pkA)⟩ rfl HK.out).mono ?_); rintro e w1 ⟨rfl, hb⟩; rw [E1.out]; (replace H := H.callB hb; clear hb)) | (go_at_call 148; (with_reducible refine (spec_PeekK m qm (((x.push c (c.pc / 256)).push c.dn c.dn.pc).push c.dn.dn c.flags) q4_ (v + 1) _ _ (hm.on H) ⟨InI.of (H.get (x := intsA q4_.ram _) pkA)⟩ rfl HK.out).mono ?_); rintro e w1 ⟨rfl, hb⟩; rw [E2.out]; (replace H := H.callB hb; clear hb)))) | go_step | go_guarded | go_upon | dsimp only)); (focus (refine kept_cA 5 46 ?_; refine kept_cA 4 45 ?_; exact kept_nil))
  refine F_eA (ls' := #[true, true, true, true, true, true, true, true, true, false, false, false]) (pend' := []) 8 ?_; intro K_ hK_; (conv => (arg 4; arg 1; whnf)); (repeat (first | refine hK_ _ _ rfl ?_ ?_ | (go_big_may; (first | (go_at_call 148; (with_reducible refine (spec_PeekK m qm (((x.push c (c.pc / 256)).push c.dn c.dn.pc).push c.dn.dn c.flags) q4_ v _ _ (hm.on H) ⟨InI.of (H.get (x := intsA q4_.ram _) pkA)⟩ rfl HK.out).mono ?_); rintro e w1 ⟨rfl, hb⟩; rw [E1.out]; (replace H := H.callB hb; clear hb)) | (go_at_call 148; (with_reducible refine (spec_PeekK m qm (((x.push c (c.pc / 256)).push c.dn c.dn.pc).push c.dn.dn c.flags) q4_ (v + 1) _ _ (hm.on H) ⟨InI.of (H.get (x := intsA q4_.ram _) pkA)⟩ rfl HK.out).mono ?_); rintro e w1 ⟨rfl, hb⟩; rw [E2.out]; (replace H := H.callB hb; clear hb)))) | go_step | go_guarded | go_upon | dsimp only)); exact kept_nil
  refine T_go [(0, 9, 50), (0, 10, 51)] ?_; (repeat ((refine' T_pure _ rfl rfl (by kernel_rfl) (Nat.le_of_ble_eq_true (by kernel_rfl)) (fun w2_ K_ hK_ => ?_) ?_; rotate_left 1; focus ((conv => (arg 4; arg 1; whnf)); (repeat (first | exact hK_ rfl | (go_big_may; (go_at_call 147; (with_reducible refine (spec_Join _ _ _).mono ?_); rintro e w1 ⟨rfl, rfl⟩)) | go_step | go_guarded | go_upon | dsimp only)); done)))); refine T_end ?_
  refine F_eA (ls' := #[true, true, true, true, true, true, true, true, true, true, true, true]) (pend' := []) 11 ?_; intro K_ hK_; (conv => (arg 4; arg 1; whnf)); (repeat (first | refine hK_ _ _ rfl ?_ ?_ | (go_big_may; (first | ((with_reducible refine g_load rfl ?_); first | refine eL1 H ?_ | refine eLa H ?_) | ((with_reducible refine g_store rfl ?_); (first | refine eSi H ?_ | refine eSb H ?_ | refine eSa H ?_); clear H; intro W_ H))) | go_step | go_guarded | go_upon | dsimp only)); exact kept_nil
  refine F_done (by kernel_rfl) ?_
  go_upto_region 8 with (first | ((with_reducible refine g_box rfl ?_); refine eBa H ?_; clear H; intro g_ W_ H) | ((with_reducible refine g_alloc rfl ?_); refine eNw H ?_; clear H; intro g_ W_ H) | ((with_reducible refine g_load rfl ?_); first | refine eL1 H ?_ | refine eLa H ?_) | ((with_reducible refine g_store rfl ?_); (first | refine eSi H ?_ | refine eSb H ?_ | refine eSa H ?_); clear H; intro W_ H))
  (with_reducible refine g_draw ?_)
  try simp only [Act.put, List.setIfInBounds_toArray, List.set_cons_succ, List.set_cons_zero]
  refine F_begin (ls := #[false, false, false, false]) (by kernel_rfl) rfl (by kernel_rfl) ?_
  have H_ := H.drew
  (clear H; have H := H_; clear H_)
  refine T_go [(1, 0, 52), (1, 1, 53)] ?_; (repeat (refine T_rA ?_)); refine T_end ?_
  refine F_eA (ls' := #[true, true, true, false]) (pend' := [1]) 2 ?_; intro K_ hK_; (conv => (arg 4; arg 1; whnf)); (repeat (first | refine hK_ _ _ rfl ?_ ?_ | (go_big_may; (first | ((with_reducible refine g_load rfl ?_); first | refine eL1 H ?_ | refine eLa H ?_) | ((with_reducible refine g_store rfl ?_); (first | refine eSi H ?_ | refine eSb H ?_ | refine eSa H ?_); clear H; intro W_ H))) | go_step | go_guarded | go_upon | dsimp only)); (focus (refine kept_cA 1 53 ?_; exact kept_nil))
  refine F_eA (ls' := #[true, true, true, true]) (pend' := []) 3 ?_; intro K_ hK_; (conv => (arg 4; arg 1; whnf)); (repeat (first | refine hK_ _ _ rfl ?_ ?_ | (go_big_may; (first | ((with_reducible refine g_load rfl ?_); first | refine eL1 H ?_ | refine eLa H ?_) | ((with_reducible refine g_store rfl ?_); (first | refine eSi H ?_ | refine eSb H ?_ | refine eSa H ?_); clear H; intro W_ H))) | go_step | go_guarded | go_upon | dsimp only)); exact kept_nil
  refine F_done (by kernel_rfl) ?_
  go_wp2_with (first | ((with_reducible refine g_box rfl ?_); refine eBa H ?_; clear H; intro g_ W_ H) | ((with_reducible refine g_alloc rfl ?_); refine eNw H ?_; clear H; intro g_ W_ H) | ((with_reducible refine g_load rfl ?_); first | refine eL1 H ?_ | refine eLa H ?_) | ((with_reducible refine g_store rfl ?_); (first | refine eSi H ?_ | refine eSb H ?_ | refine eSa H ?_); clear H; intro W_ H))
  have H2 := H.take (xs := [intsA q4_.ram _]) pksA
  refine' back2 Tryz.results193 ?_ ?_ rfl ⟨q4_, ?_, H2⟩; rotate_left 2; exact rvA; exact rvA
  rfl
end Go.Proofs.YtjgggmcnbdjdjaaGreat.C

